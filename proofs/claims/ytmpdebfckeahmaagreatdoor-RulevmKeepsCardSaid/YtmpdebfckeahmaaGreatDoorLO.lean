/- The library: facts about walks, over any program. -/
import Derived.Test.YtmpdebfckeahmaaGreatDoorLN
import Derived.Lib.SliceRun
set_option linter.unusedVariables false
set_option linter.unusedSimpArgs false
set_option linter.unusedSectionVars false
namespace Go.SL
open Go
section
variable {P : Program} {K : Hp} {H H' : List HProp} {a : Option Addr} {e sz cap t : Nat} {c : VP} {css : List (List Value)}
theorem stA {i o k n : Nat} {v : Value} {cl : List Value} (nw : List Value) (hr : Rem (OwnA a e sz cap css) H H') (ht : qa8 P t = some n) (hx : css[i]? = some cl) (hk : k = i * sz + o)
  (hv : cellsL v fun vs => n = vs.length ∧ allOne vs = true ∧ o + n ≤ sz ∧ splice o vs cl = nw ∧ nw.length = sz ∧ allOne nw = true) (h : c undef K (OwnA a e sz cap (css.set i nw) :: H')) :
  WStep P (.store t (eptr a k) v) K H c := by
 have := qee (P := P) (enc := id) (l := css) (e := e) (sz := sz) (cap := cap) (t := t) (c := c) (y := nw) cl (by unfold OwnL; rw [List.map_id]; exact hr) ht hx hk hv (by unfold OwnL; rw [List.map_id]; exact h)
 exact this
theorem LR.set {α : Type} {R : Rp α} {l : List α} {i : Nat} {nw : List Value} {y : α} (h : LR R K css l) (hy : R K nw y) : LR R K (css.set i nw) (l.set i y) := by
 refine ⟨by rw [List.length_set, List.length_set, h.len], fun j c x hc hx => ?_⟩
 by_cases q : i = j
 ·subst q
  have h1 := (List.getElem?_eq_some_iff.1 hc).1
  have h2 := (List.getElem?_eq_some_iff.1 hx).1
  simp only [List.length_set] at h1 h2
  rw [List.getElem?_set_self h1] at hc
  rw [List.getElem?_set_self h2] at hx
  cases hc; cases hx; exact hy
 ·rw [List.getElem?_set_ne q] at hc hx
  exact h.all j c x hc hx
theorem LR.take {α : Type} {R : Rp α} {l : List α} (h : LR R K css l) (n : Nat) : LR R K (css.take n) (l.take n) := by
 refine ⟨by rw [List.length_take, List.length_take, h.len], fun j c x hc hx => ?_⟩
 rw [List.getElem?_take] at hc hx
 split at hc
 ·rename_i q; rw [qwx q] at hx; exact h.all j c x hc hx
 ·cases hc
theorem qwf {i k n : Nat} {v : Value} {cl : List Value} (nw : List Value) (hr : Rem (OwnA a e sz cap css) H H') (ht : qa8 P t = some n) (hx : css[i]? = some cl) (hk : k = i * sz)
  (hv : cellsL v fun vs => n = sz ∧ vs = nw ∧ nw.length = sz ∧ allOne nw = true) (h : c undef K (OwnA a e sz cap (css.set i nw) :: H')) : WStep P (.store t (eptr a k) v) K H c := by
 refine WStep.conv fun Γ w s => ⟨K, H, s, ?_⟩
 have hcl : cl.length = sz := (s.rem hr).own.1 cl (List.mem_of_getElem? hx)
 rw [qbe] at hv
 obtain ⟨h1, h2, h3, h4⟩ := hv
 refine stA (o := 0) nw hr ht hx (by omega) ?_ h
 rw [qbe]
 refine ⟨by rw [h2, h3, h1], by rw [h2]; exact h4, by omega, ?_, h3, h4⟩
 rw [h2]
 apply List.ext_getElem?
 intro j
 rw [qce 0 nw cl j (by omega)]
 rw [qww (by omega)]
 split
 ·rfl
 ·rw [List.getElem?_eq_none (by omega), List.getElem?_eq_none (by omega)]
end
open Go
theorem qpc {L H : List HProp} {h : Hp} (x : SepL (ql4 L :: H) h) : SepL (L ++ H) h := by
 obtain ⟨h1, h2, d, l1, l2, a, r⟩ := x
 exact SepL.flat d l1 l2 a r
theorem qpd {L H : List HProp} {h : Hp} (x : SepL (L ++ H) h) : SepL (ql4 L :: H) h := by
 obtain ⟨h1, h2, d, l1, l2, a, r⟩ := SepL.parts x
 exact ⟨h1, h2, d, l1, l2, a, r⟩
theorem qe7 {A : HProp} {R R' : List HProp} (f : ∀ h, SepL R h → SepL R' h) {h : Hp} (x : SepL (A :: R) h) : SepL (A :: R') h := by
 obtain ⟨h1, h2, d, l1, l2, a, r⟩ := x
 exact ⟨h1, h2, d, l1, l2, a, f _ r⟩
theorem Rem.app {A : HProp} {L L' : List HProp} (r : Rem A L L') (H : List HProp) : Rem A (L ++ H) (L' ++ H) := by
 induction r with
 | here => exact .here
 | there _ ih => exact .there ih
theorem qqu {A : HProp} : ∀ {L : List HProp} {i : Nat}, L[i]? = some A → Rem A L (L.eraseIdx i)
 | [], i, h => by simp at h
 | B :: L, 0, h => by simp at h; subst h; exact .here
 | B :: L, i + 1, h => .there (qqu (L := L) (i := i) (by simpa using h))
def hdR {α : Type} : Rp (List α) := fun _ cs l => ∃ a cap, cs = [.slice a l.length cap]
theorem qtr {α : Type} : RpOK 1 (hdR (α := α)) :=
 ⟨fun _ h => h, fun ⟨_, _, h⟩ => by simp [h], fun ⟨_, _, h⟩ v hv => by rw [h] at hv; simp at hv; subst hv; rfl⟩
section
variable {α : Type} {enc : α → List Value} {e e' sz cap : Nat} {a : Option Addr} {css : List (List Value)} {ls : List (List α)}
def elP (enc : α → List Value) (e sz : Nat) (cs : List Value) (l : List α) : HProp := match cs with
 | [.slice a _ cap] => OwnL enc a e sz cap l
 | _ => fun _ => False
def els (enc : α → List Value) (e sz : Nat) : List (List Value) → List (List α) → List HProp
 | c :: css, l :: ls => elP enc e sz c l :: els enc e sz css ls
 | _, _ => []
def OwnE (enc : α → List Value) (e' e sz : Nat) (a : Option Addr) (cap : Nat) (css : List (List Value)) (ls : List (List α)) : HProp := ql4 (OwnA a e' 1 cap css :: els enc e sz css ls)
def OwnX (enc : α → List Value) (e sz : Nat) (css : List (List Value)) (ls : List (List α)) (i : Nat) : HProp := ql4 ((els enc e sz css ls).eraseIdx i)
theorem qm4 : ∀ {css : List (List Value)} {ls : List (List α)} {i : Nat} {c : List Value} {x : List α}, css[i]? = some c → ls[i]? = some x → (els enc e sz css ls)[i]? = some (elP enc e sz c x)
 | [], _, i, c, x, h, _ => by simp at h
 | c0 :: css, [], i, c, x, _, h => by simp at h
 | c0 :: css, l0 :: ls, 0, c, x, h, k => by simp at h k; subst h k; rfl
 | c0 :: css, l0 :: ls, i + 1, c, x, h, k => by
  rw [els]; simp only [List.getElem?_cons_succ] at h k ⊢; exact qm4 h k
theorem qia : ∀ {css : List (List Value)} {ls : List (List α)} {i : Nat} {c : List Value} {x : List α}, (els enc e sz (css.set i c) (ls.set i x)).eraseIdx i = (els enc e sz css ls).eraseIdx i
 | [], [], i, c, x => by simp [els]
 | [], l0 :: ls, i, c, x => by cases i <;> simp [els]
 | c0 :: css, [], i, c, x => by cases i <;> simp [els]
 | c0 :: css, l0 :: ls, 0, c, x => by simp [els]
 | c0 :: css, l0 :: ls, i + 1, c, x => by
  simp only [List.set_cons_succ, els, List.eraseIdx_cons_succ]
  rw [qia]
variable {K : Hp} {H H1 H2 H3 : List HProp} {Γ : World} {w : World}
theorem Sat.closeE {i : Nat} {x : List α} {ai : Option Addr} {ci : Nat} {css' : List (List Value)} {ls' : List (List α)} (r1 : Rem (OwnL enc ai e sz ci x) H H1) (r2 : Rem (OwnA a e' 1 cap css') H1 H2) (r3 : Rem (OwnX enc e sz css ls i) H2 H3)
  (hl : css.length = ls.length) (hi : i < ls.length) (hc : css' = css.set i [.slice ai x.length ci]) (hls : ls' = ls.set i x) (s : Sat Γ K H w) : Sat Γ K (OwnE enc e' e sz a cap css' ls' :: H3) w := by
 subst hc hls
 refine s.conv fun h y => ?_
 have y1 := r1.sep y
 have y2 := qe7 (fun _ => r2.sep) y1
 have y3 := qe7 (fun _ => qe7 fun _ => r3.sep) y2
 have y4 := qe7 (fun _ => qe7 fun _ => qpc) y3
 have hg : (els enc e sz (css.set i [.slice ai x.length ci]) (ls.set i x))[i]? = some (OwnL enc ai e sz ci x) := qm4 (c := [.slice ai x.length ci]) (x := x) (List.getElem?_set_self (by rw [hl]; exact hi)) (List.getElem?_set_self hi)
 have r : Rem (OwnL enc ai e sz ci x) ((OwnA a e' 1 cap (css.set i [.slice ai x.length ci]) :: els enc e sz (css.set i [.slice ai x.length ci]) (ls.set i x)) ++ H3) (OwnA a e' 1 cap (css.set i [.slice ai x.length ci]) :: ((els enc e sz css ls).eraseIdx i ++ H3)) := by
  have := (qqu hg).app H3
  rw [qia] at this
  exact .there this
 exact qpd (r.sep' y4)
end
section
variable {P : Program} {α : Type} {enc : α → List Value} {e e' sz cap : Nat} {a : Option Addr} {css : List (List Value)} {ls : List (List α)} {K : Hp} {H H1 H2 H3 : List HProp}
variable {ops : Array Oper} {env : List Value} {Q : KP} {m : M} {c : VP} {root : Code} {n : Nat} {p : List Nat} {QC : Exit → KP}
theorem stE {t i k : Nat} {x : List α} {ai : Option Addr} {ci nx : Nat} {y : List α} (r1 : Rem (OwnL enc ai e sz ci x) H H1) (r2 : Rem (OwnA a e' 1 cap css) H1 H2) (r3 : Rem (OwnX enc e sz css ls i) H2 H3) (hl : LR hdR K css ls) (hx : ls[i]? = some y) (hn : nx = x.length)
  (ht : qa8 P t = some 1) (hk : k = i * 1 + 0)
  (h : c undef K (OwnE enc e' e sz a cap (css.set i [.slice ai x.length ci]) (ls.set i x) :: H3)) : WStep P (.store t (eptr a k) (.slice ai nx ci)) K H c := by
 subst hn
 obtain ⟨cl, hc, _⟩ := hl.get hx
 have hi : i < ls.length := (List.getElem?_eq_some_iff.1 hx).1
 have hcl := hl.len
 have hm := qwf (P := P) (K := K) (H := OwnA a e' 1 cap css :: OwnL enc ai e sz ci x :: OwnX enc e sz css ls i :: H3) (c := fun v K' H' => v = undef ∧ K' = K ∧ H' = OwnA a e' 1 cap (css.set i [.slice ai x.length ci]) :: OwnL enc ai e sz ci x :: OwnX enc e sz css ls i :: H3)
  (t := t) (k := k) (v := .slice ai x.length ci) [.slice ai x.length ci] .here ht hc (by omega) (by rw [qbe]; exact ⟨rfl, rfl, rfl, rfl⟩) ⟨rfl, rfl, rfl⟩
 refine ⟨fun Γ w s => ?_⟩
 have s1 : Sat Γ K (OwnA a e' 1 cap css :: OwnL enc ai e sz ci x :: OwnX enc e sz css ls i :: H3) w := s.conv fun h y => by
  have y1 := r1.sep y
  have y2 := qe7 (fun _ => r2.sep) y1
  have y3 := qe7 (fun _ => qe7 fun _ => r3.sep) y2
  exact (Rem.there (A := OwnA a e' 1 cap css) Rem.here).sep y3
 obtain ⟨r, w', v, K', H', g1, g2, g3, rfl, rfl, rfl⟩ := hm.out Γ w s1
 refine ⟨r, w', _, _, _, g1, g2, ?_, h⟩
 exact g3.closeE (.there .here) .here .here hcl hi rfl rfl
end
open Go
open Go
section
variable {P : Program} {K : Hp} {H H' : List HProp} {c : VP} {t e sz : Nat} {α : Type} {enc : α → List Value}
def qvc (b e : Nat) (z : Value) (k : Nat) : HProp := Blk b (.cells (madeCells z.cells k) e)
theorem Sat.made {Γ : World} {w : World} {b k : Nat} {z : Value} (x0 : α) (T : ElT P t e sz) (hz : qbc P e = some z) (hx : z.cells.toList = enc x0) (ho : allOne (enc x0) = true) (hk : k ≤ lim) (s : Sat Γ K (qvc b e z (k * sz) :: H) w) :
  Sat Γ K (OwnL enc (some ⟨b, 0, none⟩) e sz k (List.replicate k x0) :: H) w := by
 obtain ⟨ht, hsz, ⟨z', hz', hzs⟩, hpos, ⟨bytes, hby, hb2⟩⟩ := T
 obtain rfl : z = z' := by rw [hz] at hz'; exact Option.some.inj hz'
 have hcs : (enc x0).length = sz := by rw [← hx]; simpa using hzs
 have hml : maxLen = 9223372036854775807 := by decide
 have hmc : (madeCells z.cells (k * sz)).toList = ((List.replicate k x0).map enc).flatten := by
  have := qf3 z.cells.toList (by rw [hx, hcs]; exact hpos) k
  rw [hx, hcs] at this
  rw [List.map_replicate, ← this]
  congr 2
  rw [← hx]
 refine Sat.mkOwn (cur := madeCells z.cells (k * sz)) s (fun l hl => ?_) (fun l hl => ?_) ?_ (by simp) (by simp only [lim] at hk; rw [hml]; omega) (fun j v hj => ?_)
 ·obtain ⟨x, hx', rfl⟩ := List.mem_map.1 hl
  rw [List.eq_of_mem_replicate hx']; exact hcs
 ·obtain ⟨x, hx', rfl⟩ := List.mem_map.1 hl
  rw [List.eq_of_mem_replicate hx']; exact qbn ho
 ·simp [madeCells]
 ·rw [← Array.getElem?_toList, hmc]; exact hj
variable {ops : Array Oper} {env : List Value} {Q : KP} {m : M} {root : Code} {n : Nat} {p : List Nat} {QC : Exit → KP}
end
open Go
def u64and (x y : Int) : Int := ((BitVec.ofInt 64 x &&& BitVec.ofInt 64 y).toNat : Int)
def u64or (x y : Int) : Int := ((BitVec.ofInt 64 x ||| BitVec.ofInt 64 y).toNat : Int)
def qqv (x y : Int) : Int := IntKind.u64.wrap (x * 2 ^ (min y.toNat 64))
def qqw (x y : Int) : Int := x.fdiv (2 ^ (min y.toNat 64))
theorem qkg {r : BitVec 64} : IntKind.u64.wrap (r.toNat : Int) = (r.toNat : Int) := by
 have := r.isLt
 exact qci (by simp only [InK]; omega)
section
variable {P : Program} {t : TypeId} {xo yo : Operand} {c : Value → Prop} {x y : Int}
theorem qji (h : c (.int .u64 (u64and x y))) : NStep P (.bin .and t xo yo (.int .u64 x) (.int .u64 y)) c :=
 NStep.mk _ (fun w => by
  have : IntKind.u64.wrap (((BitVec.ofInt 64 x &&& BitVec.ofInt 64 y).toNat : Nat) : Int) = u64and x y := qkg
  simp only [M.sem, eqGuard, binOp, Op.intBits]
  show Result.ok (Next.value (.int .u64 (IntKind.u64.wrap (((BitVec.ofInt 64 x &&& BitVec.ofInt 64 y).toNat : Nat) : Int)))) w = _
  rw [this]) h
theorem qqx (h : c (.int .u64 (u64or x y))) : NStep P (.bin .or t xo yo (.int .u64 x) (.int .u64 y)) c :=
 NStep.mk _ (fun w => by
  have : IntKind.u64.wrap (((BitVec.ofInt 64 x ||| BitVec.ofInt 64 y).toNat : Nat) : Int) = u64or x y := qkg
  simp only [M.sem, eqGuard, binOp, Op.intBits]
  show Result.ok (Next.value (.int .u64 (IntKind.u64.wrap (((BitVec.ofInt 64 x ||| BitVec.ofInt 64 y).toNat : Nat) : Int)))) w = _
  rw [this]) h
theorem qm5 (hy : 0 ≤ y) (h : c (.int .u64 (qqv x y))) : NStep P (.bin .shl t xo yo (.int .u64 x) (.int .i64 y)) c :=
 NStep.mk _ (fun w => by
  simp only [M.sem, eqGuard, binOp, Op.shift, qww (Int.not_lt.2 hy)]
  rfl) h
theorem qr9 (hy : 0 ≤ y) (h : c (.int .u64 (qqw x y))) : NStep P (.bin .shr t xo yo (.int .u64 x) (.int .i64 y)) c :=
 NStep.mk _ (fun w => by
  simp only [M.sem, eqGuard, binOp, Op.shift, qww (Int.not_lt.2 hy)]
  rfl) h
end
section
variable {P : Program} {K : Hp} {H H' : List HProp} {t e sz b off : Nat}
theorem qbo {k : Nat} {n : Int} {c : Value → Prop} (ht : P.underlying t = some (.array k e)) (hs : qa8 P e = some sz) (h0 : 0 ≤ n) (h1 : n < (k : Int))
  (h : c (.pointer (some ⟨b, off + n.toNat * sz, none⟩))) : NStep P (.indexAddr t (.pointer (some ⟨b, off, none⟩)) (.int .i64 n)) c := by
 obtain ⟨i, rfl⟩ : ∃ i : Nat, n = (i : Int) := ⟨n.toNat, by omega⟩
 exact qo6 (i := i) rfl ht hs (by simp only [Nat.blt_eq]; omega) (by rw [qb3]; simpa using h)
theorem qjj {k : IntKind} {L : List Int} {pre post cs : List Value} {n : Int} (hc : cs = pre ++ (L.map (.int k) ++ post)) (h0 : 0 ≤ n) (h1 : n < (L.length : Int)) : cs[pre.length + n.toNat]? = some (.int k (L.getD n.toNat 0)) := by
 subst hc
 rw [List.getElem?_append_right (by omega), Nat.add_sub_cancel_left, List.getElem?_append_left (by rw [List.length_map]; omega), List.getElem?_map, List.getElem?_eq_getElem (by omega)]
 simp [show n.toNat < L.length by omega]
theorem qib {k m : Nat} {n : Int} {a : Option Addr} {c : Value → Prop} (ht : P.underlying t = some (.array k e)) (hs : qa8 P e = some sz) (ha : Has a) (h0 : 0 ≤ n) (h1 : n < (k : Int))
  (h : c (eptr a (m + n.toNat * sz))) : NStep P (.indexAddr t (eptr a m) (.int .i64 n)) c := by
 obtain ⟨b, off, rfl⟩ := ha
 rw [qbi]
 refine qbo ht hs h0 h1 ?_
 rw [qbi] at h
 rw [Nat.add_assoc]; exact h
theorem qg3 {v : Value} : ∀ (o : Nat) (l : List Value), o < l.length → splice o [v] l = l.set o v
 | _, [], h => by simp at h
 | 0, x :: l, _ => by cases l <;> simp [splice]
 | o + 1, x :: l, h => by
  simp only [List.length_cons] at h
  rw [splice, qg3 o l (by omega)]; rfl
theorem qg4 {k : IntKind} {L : List Int} {pre post : List Value} {n z : Int} (h0 : 0 ≤ n) (h1 : n < (L.length : Int)) : splice (pre.length + n.toNat) [.int k z] (pre ++ (L.map (.int k) ++ post)) = pre ++ ((L.set n.toNat z).map (.int k) ++ post) := by
 rw [qg3 _ _ (by simp only [List.length_append, List.length_map]; omega), List.set_append_right _ _ (by omega), Nat.add_sub_cancel_left, List.set_append_left _ _ (by rw [List.length_map]; omega), List.map_set]
theorem qm6 {k : IntKind} {L M : List Int} {pre post cs cs' : List Value} {n z : Int} {T o : Nat} {c : VP} (hr : Rem (Cells b T cs) H H') (ht : qa8 P t = some 1) (ho : o = pre.length + n.toNat) (hc : cs = pre ++ (L.map (.int k) ++ post)) (h0 : 0 ≤ n) (h1 : n < (L.length : Int))
  (hM : L.set n.toNat z = M) (hc' : cs' = pre ++ (M.map (.int k) ++ post)) (h : c undef K (Cells b T cs' :: H')) : WStep P (.store t (.pointer (some ⟨b, o, none⟩)) (.int k z)) K H c := by
 subst ho hc hc' hM
 refine qab hr ht ?_
 rw [qbe, qa1]
 show 1 = 1 ∧ _ ∧ _ ∧ c undef K (Cells b T (splice (pre.length + n.toNat) [.int k z] (pre ++ (L.map (.int k) ++ post))) :: H')
 rw [qg4 h0 h1]
 exact ⟨rfl, rfl, by simp only [List.length_append, List.length_map]; omega, h⟩
theorem qqy {k : IntKind} {L : List Int} {pre post cs : List Value} {n : Int} {T o : Nat} {c : Value → Prop} (hr : Rem (Cells b T cs) H H') (ht : tyShape P t = some none) (ho : o = pre.length + n.toNat) (hc : cs = pre ++ (L.map (.int k) ++ post)) (h0 : 0 ≤ n) (h1 : n < (L.length : Int))
  (h : c (.int k (L.getD n.toNat 0))) : RStepS P (.load t (.pointer (some ⟨b, o, none⟩))) K H c := by
 subst ho
 exact qmj hr ht (qjj hc h0 h1) h
end
theorem qux {β : Type} {M : List Int} {f : Int → β} (h : M.length = 8) : M.map f = [f (M.getD 0 0), f (M.getD 1 0), f (M.getD 2 0), f (M.getD 3 0), f (M.getD 4 0), f (M.getD 5 0), f (M.getD 6 0), f (M.getD 7 0)] := by
 match M, h with
 | [_, _, _, _, _, _, _, _], _ => rfl
theorem qc1 {P : Program} {a : Option Addr} {k : Nat} {c : Value → Prop} (ha : Has a) (h : c (eptr a k)) : NStep P (.nilCheck (eptr a k)) c := by
 obtain ⟨b, off, rfl⟩ := ha
 rw [qbi] at h ⊢
 exact qah h
end Go.SL
