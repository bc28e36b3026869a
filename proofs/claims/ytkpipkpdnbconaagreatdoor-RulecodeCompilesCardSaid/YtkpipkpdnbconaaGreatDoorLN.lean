/- The library: facts about walks, over any program. -/
import Derived.Test.YtkpipkpdnbconaaGreatDoorLM
import Derived.Lib.SliceRun
set_option linter.unusedVariables false
set_option linter.unusedSimpArgs false
namespace Go.SL
open Go
section
variable {P : Program} {K : Hp} {H H' : List HProp} {a : Option Addr} {e sz cap t : Nat} {c : VP} {css : List (List Value)}
theorem LR.set {α : Type} {R : Rp α} {l : List α} {i : Nat} {nw : List Value} {y : α} (h : LR R K css l) (hy : R K nw y) : LR R K (css.set i nw) (l.set i y) := by
 refine ⟨by rw [List.length_set, List.length_set, h.len], fun j c x hc hx => ?_⟩
 by_cases q : i = j
 ·subst q
  have h1 := (List.getElem?_eq_some_iff.1 hc).1
  have h2 := (List.getElem?_eq_some_iff.1 hx).1
  simp only [List.length_set] at h1 h2
  rw [List.getElem?_set_self h1] at hc
  rw [List.getElem?_set_self h2] at hx
  cases hc; cases hx; exact hy
 ·rw [List.getElem?_set_ne q] at hc hx
  exact h.all j c x hc hx
theorem LR.take {α : Type} {R : Rp α} {l : List α} (h : LR R K css l) (n : Nat) : LR R K (css.take n) (l.take n) := by
 refine ⟨by rw [List.length_take, List.length_take, h.len], fun j c x hc hx => ?_⟩
 rw [List.getElem?_take] at hc hx
 split at hc
 ·rename_i q; rw [if_pos q] at hx; exact h.all j c x hc hx
 ·cases hc
end
end Go.SL
set_option linter.unusedVariables false
set_option linter.unusedSimpArgs false
namespace Go.SL
open Go
theorem sep_flat {L H : List HProp} {h : Hp} (x : SepL (SepH L :: H) h) : SepL (L ++ H) h := by
 obtain ⟨h1, h2, d, l1, l2, a, r⟩ := x
 exact SepL.flat d l1 l2 a r
theorem sep_fold {L H : List HProp} {h : Hp} (x : SepL (L ++ H) h) : SepL (SepH L :: H) h := by
 obtain ⟨h1, h2, d, l1, l2, a, r⟩ := SepL.parts x
 exact ⟨h1, h2, d, l1, l2, a, r⟩
theorem sep_tl {A : HProp} {R R' : List HProp} (f : ∀ h, SepL R h → SepL R' h) {h : Hp} (x : SepL (A :: R) h) : SepL (A :: R') h := by
 obtain ⟨h1, h2, d, l1, l2, a, r⟩ := x
 exact ⟨h1, h2, d, l1, l2, a, f _ r⟩
theorem Rem.app {A : HProp} {L L' : List HProp} (r : Rem A L L') (H : List HProp) : Rem A (L ++ H) (L' ++ H) := by
 induction r with
 | here => exact .here
 | there _ ih => exact .there ih
theorem rem_at {A : HProp} : ∀ {L : List HProp} {i : Nat}, L[i]? = some A → Rem A L (L.eraseIdx i)
 | [], i, h => by simp at h
 | B :: L, 0, h => by simp at h; subst h; exact .here
 | B :: L, i + 1, h => .there (rem_at (L := L) (i := i) (by simpa using h))
def hdR {α : Type} : Rp (List α) := fun _ cs l => ∃ a cap, cs = [.slice a l.length cap]
theorem hdR_ok {α : Type} : RpOK 1 (hdR (α := α)) :=
 ⟨fun _ h => h, fun ⟨_, _, h⟩ => by simp [h], fun ⟨_, _, h⟩ v hv => by rw [h] at hv; simp at hv; subst hv; rfl⟩
section
variable {α : Type} {enc : α → List Value} {e e' sz cap : Nat} {a : Option Addr} {css : List (List Value)} {ls : List (List α)}
def elP (enc : α → List Value) (e sz : Nat) (cs : List Value) (l : List α) : HProp := match cs with
 | [.slice a _ cap] => OwnL enc a e sz cap l
 | _ => fun _ => False
def els (enc : α → List Value) (e sz : Nat) : List (List Value) → List (List α) → List HProp
 | c :: css, l :: ls => elP enc e sz c l :: els enc e sz css ls
 | _, _ => []
def OwnE (enc : α → List Value) (e' e sz : Nat) (a : Option Addr) (cap : Nat) (css : List (List Value)) (ls : List (List α)) : HProp := SepH (OwnA a e' 1 cap css :: els enc e sz css ls)
def OwnX (enc : α → List Value) (e sz : Nat) (css : List (List Value)) (ls : List (List α)) (i : Nat) : HProp := SepH ((els enc e sz css ls).eraseIdx i)
theorem els_get : ∀ {css : List (List Value)} {ls : List (List α)} {i : Nat} {c : List Value} {x : List α}, css[i]? = some c → ls[i]? = some x → (els enc e sz css ls)[i]? = some (elP enc e sz c x)
 | [], _, i, c, x, h, _ => by simp at h
 | c0 :: css, [], i, c, x, _, h => by simp at h
 | c0 :: css, l0 :: ls, 0, c, x, h, k => by simp at h k; subst h k; rfl
 | c0 :: css, l0 :: ls, i + 1, c, x, h, k => by
  rw [els]; simp only [List.getElem?_cons_succ] at h k ⊢; exact els_get h k
variable {K : Hp} {H H1 H2 H3 : List HProp} {Γ : World} {w : World}
theorem Sat.openE {i : Nat} {x : List α} (hr : Rem (OwnE enc e' e sz a cap css ls) H H1) (hl : LR hdR K css ls) (hx : ls[i]? = some x) (s : Sat Γ K H w) :
  ∃ ai ci, css[i]? = some [.slice ai x.length ci] ∧ (0 < x.length → Has ai) ∧ Sat Γ K (OwnL enc ai e sz ci x :: OwnA a e' 1 cap css :: OwnX enc e sz css ls i :: H1) w := by
 obtain ⟨c, hc, ai, ci, rfl⟩ := hl.get hx
 have s2 : Sat Γ K (OwnL enc ai e sz ci x :: OwnA a e' 1 cap css :: OwnX enc e sz css ls i :: H1) w := (s.rem hr).conv fun h y => by
  have y1 := sep_flat y
  have r : Rem (OwnL enc ai e sz ci x) ((OwnA a e' 1 cap css :: els enc e sz css ls) ++ H1) (OwnA a e' 1 cap css :: ((els enc e sz css ls).eraseIdx i ++ H1)) := .there ((rem_at (els_get (enc := enc) (e := e) (sz := sz) hc hx)).app H1)
  exact sep_tl (fun _ => sep_tl fun _ => sep_fold) (r.sep y1)
 refine ⟨ai, ci, hc, fun hp => ?_, s2⟩
 obtain ⟨_, _, hA⟩ := s2.own
 rcases hA with ⟨_, _, hn, _⟩ | ⟨b, _, _, _, rfl, _⟩
 ·have := congrArg List.length hn; simp at this; subst this; simp at hp
 ·exact ⟨_, _, rfl⟩
end
section
variable {P : Program} {α : Type} {enc : α → List Value} {e e' sz cap : Nat} {a : Option Addr} {css : List (List Value)} {ls : List (List α)} {K : Hp} {H H1 H2 H3 : List HProp}
theorem ldE {t i k : Nat} {cl : List Value} {v : Value} {c : Value → Prop} (hr : Rem (OwnE enc e' e sz a cap css ls) H H1) (ht : tyShape P t = some none) (hx : css[i]? = some cl) (hv : cl[0]? = some v) (hk : k = i * 1 + 0) (h : c v) :
  RStepS P (.load t (eptr a k)) K H c := by
 obtain ⟨u, h1, h2⟩ := (ldA (P := P) (K := K) (H := OwnA a e' 1 cap css :: (els enc e sz css ls ++ H1)) (o := 0) .here ht hx hv hk h).out
 exact ⟨u, fun Γ w s => h1 Γ w ((s.rem hr).conv fun _ y => sep_flat y), h2⟩
theorem Sat.openE' {i : Nat} {x : List α} {ai : Option Addr} {ci : Nat} {Γ : World} {w : World} (hr : Rem (OwnE enc e' e sz a cap css ls) H H1) (hl : LR hdR K css ls) (hx : ls[i]? = some x) (hc : css[i]? = some [.slice ai x.length ci]) (s : Sat Γ K H w) :
  (0 < x.length → Has ai) ∧ Sat Γ K (OwnL enc ai e sz ci x :: OwnA a e' 1 cap css :: OwnX enc e sz css ls i :: H1) w := by
 obtain ⟨aj, cj, h1, h2, h3⟩ := s.openE hr hl hx
 rw [hc] at h1
 simp only [Option.some.injEq, List.cons.injEq, Value.slice.injEq, and_true, true_and] at h1
 obtain ⟨rfl, rfl⟩ := h1
 exact ⟨h2, h3⟩
variable {ops : Array Oper} {env : List Value} {Q : KP} {m : M} {c : VP} {root : Code} {n : Nat} {p : List Nat} {QC : Exit → KP}
theorem apEE {t tx ty k i : Nat} {xv : Value} {x new : List α} {ai : Option Addr} {ci : Nat} {cs : Array Bool} (hr : Rem (OwnE enc e' e sz a cap css ls) H H1) (hl : LR hdR K css ls) (hx : ls[i]? = some x) (hc : css[i]? = some [.slice ai x.length ci]) (hn : k = x.length)
  (T : ElT P t e sz) (hs : SrcOK P K H1 sz tx xv (new.map enc)) (hlim : x.length + new.length ≤ lim)
  (h : ∀ a' cap', (0 < (x ++ new).length → Has a') → c (.slice a' (x ++ new).length cap') K (OwnL enc a' e sz cap' (x ++ new) :: OwnA a e' 1 cap css :: OwnX enc e sz css ls i :: H1)) :
  WStep P (.builtin .append #[t, tx] ty cs [.slice ai k ci, xv]) K H c := by
 refine WStep.conv fun Γ w s => ?_
 obtain ⟨_, s2⟩ := s.openE' hr hl hx hc
 exact ⟨K, _, s2, apE hn .here T ⟨fun Γ w s => hs.src Γ w s.drop.drop, hs.len, hs.one⟩ hlim h⟩
end
end Go.SL
set_option linter.unusedVariables false
set_option linter.unusedSimpArgs false
namespace Go.SL
open Go
section
variable {P : Program} {α : Type} {enc : α → List Value} {e e' sz cap : Nat} {a : Option Addr} {css : List (List Value)} {ls : List (List α)} {K : Hp} {H H1 H2 H3 : List HProp}
def OwnS (enc : α → List Value) (e sz : Nat) (css : List (List Value)) (ls : List (List α)) : HProp := SepH (els enc e sz css ls)
theorem Sat.fzEo {Γ : World} {w : World} (hr : Rem (OwnE enc e' e sz a cap css ls) H H1) (hl : LR hdR K css ls) (s : Sat Γ K H w) : ∃ K', K.Le K' ∧ LiC hdR K' a cap 1 ls ∧ RdS K' a 1 css ∧ Sat Γ K' (OwnS enc e sz css ls :: H1) w := by
 have s1 : Sat Γ K (OwnA a e' 1 cap css :: OwnS enc e sz css ls :: H1) w := (s.rem hr).conv fun h y => sep_tl (fun _ => sep_fold) (sep_flat y)
 have hle := s1.ownLen
 obtain ⟨K', h1, h2, h3⟩ := s1.ownFreeze
 exact ⟨K', h1, ⟨LiR.mk' h2 (hl.mono hdR_ok h1), by rw [← hl.len]; exact hle⟩, h2, h3⟩
theorem Sat.openS {Γ : World} {w : World} {i : Nat} {x : List α} {ai : Option Addr} {ci : Nat} (hr : Rem (OwnS enc e sz css ls) H H1) (hx : ls[i]? = some x) (hc : css[i]? = some [.slice ai x.length ci]) (s : Sat Γ K H w) :
  Sat Γ K (OwnL enc ai e sz ci x :: OwnX enc e sz css ls i :: H1) w := (s.rem hr).conv fun h y => by
 have r : Rem (OwnL enc ai e sz ci x) (els enc e sz css ls ++ H1) ((els enc e sz css ls).eraseIdx i ++ H1) := (rem_at (els_get (enc := enc) (e := e) (sz := sz) hc hx)).app H1
 exact sep_tl (fun _ => sep_fold) (r.sep (sep_flat y))
variable {ops : Array Oper} {env : List Value} {Q : KP} {m : M} {c : VP} {root : Code} {n : Nat} {p : List Nat} {QC : Exit → KP}
theorem fzEoD (hr : Rem (OwnE enc e' e sz a cap css ls) H H1) (hl : LR hdR K css ls) (h : ∀ K', K.Le K' → LiC hdR K' a cap 1 ls → RdS K' a 1 css → DStep P ops env K' (OwnS enc e sz css ls :: H1) Q) : DStep P ops env K H Q :=
 DStep.conv fun Γ w s => let ⟨K', h1, h2, h3, h4⟩ := s.fzEo hr hl; ⟨K', _, h4, h K' h1 h2 h3⟩
end
end Go.SL
set_option linter.unusedVariables false
set_option linter.unusedSimpArgs false
namespace Go.SL
open Go
section
variable {P : Program} {K : Hp} {H H' : List HProp} {c : VP} {t e sz : Nat} {α : Type} {enc : α → List Value}
def MadeB (b e : Nat) (z : Value) (k : Nat) : HProp := Blk b (.cells (madeCells z.cells k) e)
theorem Sat.made {Γ : World} {w : World} {b k : Nat} {z : Value} (x0 : α) (T : ElT P t e sz) (hz : tyZeroV P e = some z) (hx : z.cells.toList = enc x0) (ho : allOne (enc x0) = true) (hk : k ≤ lim) (s : Sat Γ K (MadeB b e z (k * sz) :: H) w) :
  Sat Γ K (OwnL enc (some ⟨b, 0, none⟩) e sz k (List.replicate k x0) :: H) w := by
 obtain ⟨ht, hsz, ⟨z', hz', hzs⟩, hpos, ⟨bytes, hby, hb2⟩⟩ := T
 obtain rfl : z = z' := by rw [hz] at hz'; exact Option.some.inj hz'
 have hcs : (enc x0).length = sz := by rw [← hx]; simpa using hzs
 have hml : maxLen = 9223372036854775807 := by decide
 have hmc : (madeCells z.cells (k * sz)).toList = ((List.replicate k x0).map enc).flatten := by
  have := made_flat z.cells.toList (by rw [hx, hcs]; exact hpos) k
  rw [hx, hcs] at this
  rw [List.map_replicate, ← this]
  congr 2
  rw [← hx]
 refine Sat.mkOwn (cur := madeCells z.cells (k * sz)) s (fun l hl => ?_) (fun l hl => ?_) ?_ (by simp) (by simp only [lim] at hk; rw [hml]; omega) (fun j v hj => ?_)
 ·obtain ⟨x, hx', rfl⟩ := List.mem_map.1 hl
  rw [List.eq_of_mem_replicate hx']; exact hcs
 ·obtain ⟨x, hx', rfl⟩ := List.mem_map.1 hl
  rw [List.eq_of_mem_replicate hx']; exact allOne_spec ho
 ·simp [madeCells]
 ·rw [← Array.getElem?_toList, hmc]; exact hj
variable {ops : Array Oper} {env : List Value} {Q : KP} {m : M} {root : Code} {n : Nat} {p : List Nat} {QC : Exit → KP}
end
end Go.SL
set_option linter.unusedVariables false
set_option linter.unusedSimpArgs false
namespace Go.SL
open Go
def u64and (x y : Int) : Int := ((BitVec.ofInt 64 x &&& BitVec.ofInt 64 y).toNat : Int)
def u64or (x y : Int) : Int := ((BitVec.ofInt 64 x ||| BitVec.ofInt 64 y).toNat : Int)
def u64shl (x y : Int) : Int := IntKind.u64.wrap (x * 2 ^ (min y.toNat 64))
def u64shr (x y : Int) : Int := x.fdiv (2 ^ (min y.toNat 64))
theorem u64_wrap {r : BitVec 64} : IntKind.u64.wrap (r.toNat : Int) = (r.toNat : Int) := by
 have := r.isLt
 exact wrap_in (by simp only [InK]; omega)
section
variable {P : Program} {t : TypeId} {xo yo : Operand} {c : Value → Prop} {x y : Int}
theorem u64_and (h : c (.int .u64 (u64and x y))) : NStep P (.bin .and t xo yo (.int .u64 x) (.int .u64 y)) c :=
 NStep.mk _ (fun w => by
  have : IntKind.u64.wrap (((BitVec.ofInt 64 x &&& BitVec.ofInt 64 y).toNat : Nat) : Int) = u64and x y := u64_wrap
  simp only [M.sem, eqGuard, binOp, Op.intBits]
  show Result.ok (Next.value (.int .u64 (IntKind.u64.wrap (((BitVec.ofInt 64 x &&& BitVec.ofInt 64 y).toNat : Nat) : Int)))) w = _
  rw [this]) h
theorem u64_or (h : c (.int .u64 (u64or x y))) : NStep P (.bin .or t xo yo (.int .u64 x) (.int .u64 y)) c :=
 NStep.mk _ (fun w => by
  have : IntKind.u64.wrap (((BitVec.ofInt 64 x ||| BitVec.ofInt 64 y).toNat : Nat) : Int) = u64or x y := u64_wrap
  simp only [M.sem, eqGuard, binOp, Op.intBits]
  show Result.ok (Next.value (.int .u64 (IntKind.u64.wrap (((BitVec.ofInt 64 x ||| BitVec.ofInt 64 y).toNat : Nat) : Int)))) w = _
  rw [this]) h
theorem u64_shl (hy : 0 ≤ y) (h : c (.int .u64 (u64shl x y))) : NStep P (.bin .shl t xo yo (.int .u64 x) (.int .i64 y)) c :=
 NStep.mk _ (fun w => by
  simp only [M.sem, eqGuard, binOp, Op.shift, if_neg (Int.not_lt.2 hy)]
  rfl) h
theorem u64_shr (hy : 0 ≤ y) (h : c (.int .u64 (u64shr x y))) : NStep P (.bin .shr t xo yo (.int .u64 x) (.int .i64 y)) c :=
 NStep.mk _ (fun w => by
  simp only [M.sem, eqGuard, binOp, Op.shift, if_neg (Int.not_lt.2 hy)]
  rfl) h
end
section
variable {P : Program} {K : Hp} {H H' : List HProp} {t e sz b off : Nat}
theorem arr_addrV {k : Nat} {n : Int} {c : Value → Prop} (ht : P.underlying t = some (.array k e)) (hs : tySize P e = some sz) (h0 : 0 ≤ n) (h1 : n < (k : Int))
  (h : c (.pointer (some ⟨b, off + n.toNat * sz, none⟩))) : NStep P (.indexAddr t (.pointer (some ⟨b, off, none⟩)) (.int .i64 n)) c := by
 obtain ⟨i, rfl⟩ : ∃ i : Nat, n = (i : Int) := ⟨n.toNat, by omega⟩
 exact arr_addr (i := i) rfl ht hs (by simp only [Nat.blt_eq]; omega) (by rw [forceN_eq]; simpa using h)
theorem arr_get {k : IntKind} {L : List Int} {pre post cs : List Value} {n : Int} (hc : cs = pre ++ (L.map (.int k) ++ post)) (h0 : 0 ≤ n) (h1 : n < (L.length : Int)) : cs[pre.length + n.toNat]? = some (.int k (L.getD n.toNat 0)) := by
 subst hc
 rw [List.getElem?_append_right (by omega), Nat.add_sub_cancel_left, List.getElem?_append_left (by rw [List.length_map]; omega), List.getElem?_map, List.getElem?_eq_getElem (by omega)]
 simp [show n.toNat < L.length by omega]
theorem arr_addrE {k m : Nat} {n : Int} {a : Option Addr} {c : Value → Prop} (ht : P.underlying t = some (.array k e)) (hs : tySize P e = some sz) (ha : Has a) (h0 : 0 ≤ n) (h1 : n < (k : Int))
  (h : c (eptr a (m + n.toNat * sz))) : NStep P (.indexAddr t (eptr a m) (.int .i64 n)) c := by
 obtain ⟨b, off, rfl⟩ := ha
 rw [eptr_some]
 refine arr_addrV ht hs h0 h1 ?_
 rw [eptr_some] at h
 rw [Nat.add_assoc]; exact h
theorem splice_one {v : Value} : ∀ (o : Nat) (l : List Value), o < l.length → splice o [v] l = l.set o v
 | _, [], h => by simp at h
 | 0, x :: l, _ => by cases l <;> simp [splice]
 | o + 1, x :: l, h => by
  simp only [List.length_cons] at h
  rw [splice, splice_one o l (by omega)]; rfl
theorem arr_splice {k : IntKind} {L : List Int} {pre post : List Value} {n z : Int} (h0 : 0 ≤ n) (h1 : n < (L.length : Int)) : splice (pre.length + n.toNat) [.int k z] (pre ++ (L.map (.int k) ++ post)) = pre ++ ((L.set n.toNat z).map (.int k) ++ post) := by
 rw [splice_one _ _ (by simp only [List.length_append, List.length_map]; omega), List.set_append_right _ _ (by omega), Nat.add_sub_cancel_left, List.set_append_left _ _ (by rw [List.length_map]; omega), List.map_set]
theorem st_arr {k : IntKind} {L M : List Int} {pre post cs cs' : List Value} {n z : Int} {T o : Nat} {c : VP} (hr : Rem (Cells b T cs) H H') (ht : tySize P t = some 1) (ho : o = pre.length + n.toNat) (hc : cs = pre ++ (L.map (.int k) ++ post)) (h0 : 0 ≤ n) (h1 : n < (L.length : Int))
  (hM : L.set n.toNat z = M) (hc' : cs' = pre ++ (M.map (.int k) ++ post)) (h : c undef K (Cells b T cs' :: H')) : WStep P (.store t (.pointer (some ⟨b, o, none⟩)) (.int k z)) K H c := by
 subst ho hc hc' hM
 refine store_rule hr ht ?_
 rw [cellsL_eq, force_eq]
 show 1 = 1 ∧ _ ∧ _ ∧ c undef K (Cells b T (splice (pre.length + n.toNat) [.int k z] (pre ++ (L.map (.int k) ++ post))) :: H')
 rw [arr_splice h0 h1]
 exact ⟨rfl, rfl, by simp only [List.length_append, List.length_map]; omega, h⟩
theorem ld_arr {k : IntKind} {L : List Int} {pre post cs : List Value} {n : Int} {T o : Nat} {c : Value → Prop} (hr : Rem (Cells b T cs) H H') (ht : tyShape P t = some none) (ho : o = pre.length + n.toNat) (hc : cs = pre ++ (L.map (.int k) ++ post)) (h0 : 0 ≤ n) (h1 : n < (L.length : Int))
  (h : c (.int k (L.getD n.toNat 0))) : RStepS P (.load t (.pointer (some ⟨b, o, none⟩))) K H c := by
 subst ho
 exact load1_s hr ht (arr_get hc h0 h1) h
end
theorem map8 {β : Type} {M : List Int} {f : Int → β} (h : M.length = 8) : M.map f = [f (M.getD 0 0), f (M.getD 1 0), f (M.getD 2 0), f (M.getD 3 0), f (M.getD 4 0), f (M.getD 5 0), f (M.getD 6 0), f (M.getD 7 0)] := by
 match M, h with
 | [_, _, _, _, _, _, _, _], _ => rfl
theorem nil_checkE {P : Program} {a : Option Addr} {k : Nat} {c : Value → Prop} (ha : Has a) (h : c (eptr a k)) : NStep P (.nilCheck (eptr a k)) c := by
 obtain ⟨b, off, rfl⟩ := ha
 rw [eptr_some] at h ⊢
 exact nil_check h
end Go.SL
