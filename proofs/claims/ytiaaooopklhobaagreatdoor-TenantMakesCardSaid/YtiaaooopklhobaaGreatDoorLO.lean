/- The library: facts about walks, over any program. -/
import Derived.Test.YtiaaooopklhobaaGreatDoorLN
import Derived.Lib.SliceRun
set_option linter.unusedVariables false
set_option linter.unusedSimpArgs false
set_option linter.unusedSectionVars false
namespace Go.SL
open Go
section
variable {P : Program} {K : Hp} {H H' : List HProp} {a : Option Addr} {e sz cap t : Nat} {c : VP} {css : List (List Value)}
theorem stA {i o k n : Nat} {v : Value} {cl : List Value} (nw : List Value) (hr : Rem (OwnA a e sz cap css) H H') (ht : qbc P t = some n) (hx : css[i]? = some cl) (hk : k = i * sz + o)
  (hv : cellsL v fun vs => n = vs.length ∧ allOne vs = true ∧ o + n ≤ sz ∧ splice o vs cl = nw ∧ nw.length = sz ∧ allOne nw = true) (h : c undef K (OwnA a e sz cap (css.set i nw) :: H')) :
  WStep P (.store t (eptr a k) v) K H c := by
 have := qe8 (P := P) (enc := id) (l := css) (e := e) (sz := sz) (cap := cap) (t := t) (c := c) (y := nw) cl (by unfold OwnL; rw [List.map_id]; exact hr) ht hx hk hv (by unfold OwnL; rw [List.map_id]; exact h)
 exact this
theorem LR.set {α : Type} {R : Rp α} {l : List α} {i : Nat} {nw : List Value} {y : α} (h : LR R K css l) (hy : R K nw y) : LR R K (css.set i nw) (l.set i y) := by
 refine ⟨by rw [List.length_set, List.length_set, h.len], fun j c x hc hx => ?_⟩
 by_cases q : i = j
 ·subst q
  have h1 := (List.getElem?_eq_some_iff.1 hc).1
  have h2 := (List.getElem?_eq_some_iff.1 hx).1
  simp only [List.length_set] at h1 h2
  rw [List.getElem?_set_self h1] at hc
  rw [List.getElem?_set_self h2] at hx
  cases hc; cases hx; exact hy
 ·rw [List.getElem?_set_ne q] at hc hx
  exact h.all j c x hc hx
theorem LR.take {α : Type} {R : Rp α} {l : List α} (h : LR R K css l) (n : Nat) : LR R K (css.take n) (l.take n) := by
 refine ⟨by rw [List.length_take, List.length_take, h.len], fun j c x hc hx => ?_⟩
 rw [List.getElem?_take] at hc hx
 split at hc
 ·rename_i q; rw [qx2 q] at hx; exact h.all j c x hc hx
 ·cases hc
theorem LR.repl {α : Type} {R : Rp α} {z : List Value} {x : α} (n : Nat) (h : R K z x) : LR R K (List.replicate n z) (List.replicate n x) := by
 refine ⟨by simp, fun j c y hc hy => ?_⟩
 rw [List.getElem?_replicate] at hc hy
 split at hc
 ·rename_i q; rw [qx2 q] at hy; cases hc; cases hy; exact h
 ·cases hc
def clr {α : Type} (l : List α) (lo : Nat) (x : α) : List α := l.take lo ++ List.replicate (l.length - lo) x
theorem LR.clr {α : Type} {R : Rp α} {l : List α} {z : List Value} {x : α} (h : LR R K css l) (lo : Nat) (hx : R K z x) : LR R K (SL.clr css lo z) (SL.clr l lo x) := by
 unfold SL.clr; rw [h.len]; exact (h.take lo).app (LR.repl _ hx)
theorem qpn (zc : Array Value) (n : Nat) (h : 0 < zc.size) : (Builtin.zeroCells zc n).toList = (List.replicate n zc.toList).flatten := by
 apply List.ext_getElem?
 intro j
 have hl : ∀ n : Nat, (List.replicate n zc.toList).flatten.length = n * zc.size := fun n => by simp
 rcases Nat.lt_or_ge j (n * zc.size) with q | q
 ·have hm : j % zc.size < zc.size := Nat.mod_lt _ h
  have h2 : j / zc.size < n := Nat.div_lt_of_lt_mul (by rw [Nat.mul_comm]; exact q)
  have h3 := qdr (css := List.replicate n zc.toList) (sz := zc.size) (i := j / zc.size) (l := zc.toList) (by
   intro l hl; rw [List.eq_of_mem_replicate hl]; simp) (by rw [List.getElem?_replicate, qx2 h2]) (j % zc.size) zc[j % zc.size] (by simp [hm])
  rw [show j / zc.size * zc.size + j % zc.size = j from by rw [Nat.mul_comm]; exact Nat.div_add_mod j zc.size] at h3
  rw [h3]
  simp [Builtin.zeroCells, q, hm]
 ·rw [List.getElem?_eq_none (l := (List.replicate n zc.toList).flatten) (by rw [hl]; exact q), List.getElem?_eq_none (by simp [Builtin.zeroCells]; exact q)]
theorem qu5 {lo n e2 c' ty : Nat} {z : Value} {zl : List Value} {cs : Array Bool} (hr : Rem (OwnA a e sz cap css) H H') (ht : P.underlying t = some (.slice e2)) (hz : qbk P e2 = some z) (hzl : z.cells.toList = zl) (hzs : zl.length = sz) (hz1 : allOne zl = true) (hsz : 0 < sz)
  (hn : n = css.length - lo) (hlo : lo ≤ css.length) (h : c (.tuple #[]) K (OwnA a e sz cap (clr css lo zl) :: H')) :
  WStep P (.builtin .clear #[t] ty cs [.slice (subA a cap lo sz) n c']) K H c := by
 have hzero : ∀ w, (zeroValue e2).run P w = .ok z w := by
  obtain ⟨i, hi, hiz⟩ : ∃ i, P.info? e2 = some i ∧ i.zero = some z := by
   unfold qbk at hz
   cases h : P.info? e2 with
   | none => simp [h] at hz
   | some i =>
    refine ⟨i, rfl, ?_⟩
    simp only [h] at hz
    cases h0 : i.zero with
    | none => simp [h0] at hz
    | some z' => simp [h0] at hz; rw [hz]
  intro w
  simp [zeroValue, typeInfo, hi, hiz]
 refine ⟨fun Γ w s => ?_⟩
 rcases Nat.eq_zero_or_pos n with q | q
 ·have e0 : clr css lo zl = css := by
   unfold clr
   rw [show css.length - lo = 0 from by omega, List.take_of_length_le (by omega)]; simp
  rw [e0] at h
  refine ⟨_, w, .tuple #[], K, _, ?_, .inl rfl, s.rem hr, h⟩
  subst q
  cases hs : subA a cap lo sz <;> simp [M.sem, builtin, Builtin.clear_, run_underlying ht]
 obtain ⟨hl, ho, hA⟩ := (s.rem hr).own
 rcases hA with ⟨_, _, hn', _⟩ | ⟨b, cur, fz, hfz, rfl, k1, k2, k3, k4, s0⟩
 ·subst hn'; simp at hn; omega
 have hfl := qb8 hl
 have hne : cap ≠ lo := by omega
 have hzf : (List.replicate n zl).flatten.length = n * sz := by simp [hzs]
 have hmul : lo * sz + n * sz = css.length * sz := by rw [← Nat.add_mul]; congr 1; omega
 have hle : css.length * sz ≤ cur.size := Nat.le_trans (Nat.mul_le_mul_right _ k2) k1
 obtain ⟨w', hrun, hs⟩ := Sat.storeCellsF (P := P) (fz := fz) (List.replicate n zl).flatten (lo * sz) 0 cur.toList w (by simpa using s0) (by rw [hzf]; simp only [Array.length_toList]; omega) (fun v hv => by
  obtain ⟨m, hm, hv⟩ := List.mem_flatten.1 hv
  rw [List.eq_of_mem_replicate hm] at hv; exact qbn hz1 v hv) (by simpa using hfz)
 refine ⟨_, w', .tuple #[], K, _, ?_, .inl rfl, ?_, h⟩
 ·have hsub : subA (some ⟨b, 0, none⟩) cap lo sz = some ⟨b, lo * sz, none⟩ := by unfold subA; rw [qx1 hne]; simp [Addr.add]; try exact fun h => h.symm
  have hzc : (Builtin.zeroCells z.cells n).toList = (List.replicate n zl).flatten := by
   rw [qpn _ _ (by rw [show z.cells.size = sz from by rw [← hzs, ← hzl]; simp]; exact hsz), hzl]
  rw [hsub]
  obtain ⟨m, rfl⟩ : ∃ m, n = m + 1 := ⟨n - 1, by omega⟩
  simp [M.sem, builtin, Builtin.clear_, run_underlying ht, hzero, hzc, hrun]
 ·have hall : ∀ m ∈ clr css lo zl, m.length = sz ∧ ∀ v ∈ m, v.oneCell' = true := fun m hm => by
   unfold clr at hm
   rcases List.mem_append.1 hm with h | h
   ·have h := List.mem_of_mem_take h; exact ⟨hl m h, ho m h⟩
   ·rw [List.eq_of_mem_replicate h]; exact ⟨hzs, qbn hz1⟩
  have hcl : (clr css lo zl).length = css.length := by unfold clr; simp; omega
  have hspl : (splice (lo * sz + 0) (List.replicate n zl).flatten cur.toList).length = cur.toList.length := by
   rcases splice_len (lo * sz + 0) (List.replicate n zl).flatten cur.toList with h' | h'
   ·exact h'
   ·rw [hzf] at h'; simp only [Array.length_toList] at h'; omega
  refine hs.mkOwnF ?_ (fun m hm => (hall m hm).1) (fun m hm => (hall m hm).2) ?_ (by rw [hcl]; exact k2) k3 ?_
  ·rcases hfz with h | h
   ·exact .inl h
   ·right
    rw [show (splice (lo * sz + 0) (List.replicate n zl).flatten cur.toList).toArray.size = cur.toList.length from by simpa using hspl]; simpa using h
  ·rw [show (splice (lo * sz + 0) (List.replicate n zl).flatten cur.toList).toArray.size = cur.size from by simpa using hspl]; exact k1
  ·intro j u hu
   have hg := qct (lo * sz + 0) (List.replicate n zl).flatten cur.toList j (by rw [hzf]; simp only [Array.length_toList]; omega)
   have htl : (css.take lo).flatten.length = lo * sz := by rw [qb8 (css := css.take lo) (sz := sz) (fun m hm => hl m (List.mem_of_mem_take hm)), List.length_take, Nat.min_eq_left hlo]
   have hu2 : ((css.take lo).flatten ++ (List.replicate n zl).flatten)[j]? = some u := by
    unfold clr at hu; rw [List.flatten_append, ← hn] at hu; exact hu
   have key : (splice (lo * sz + 0) (List.replicate n zl).flatten cur.toList)[j]? = some u := by
    rw [hg]
    rcases Nat.lt_or_ge j (lo * sz) with q1 | q1
    ·rw [qx2 (by omega)]
     rw [List.getElem?_append_left (by rw [htl]; exact q1)] at hu2
     have : css.flatten[j]? = some u := by
      have e1 : css.flatten = (css.take lo).flatten ++ (css.drop lo).flatten := by rw [← List.flatten_append, List.take_append_drop]
      rw [e1, List.getElem?_append_left (by rw [htl]; exact q1)]; exact hu2
     simpa using k4 j u this
    ·rw [List.getElem?_append_right (by rw [htl]; exact q1), htl] at hu2
     have := (List.getElem?_eq_some_iff.1 hu2).1
     rw [hzf] at this
     rw [qx1 (by omega), qx2 (by rw [hzf]; omega)]
     simpa using hu2
   simpa using key
theorem qxp {i k n : Nat} {v : Value} {cl : List Value} (nw : List Value) (hr : Rem (OwnA a e sz cap css) H H') (ht : qbc P t = some n) (hx : css[i]? = some cl) (hk : k = i * sz)
  (hv : cellsL v fun vs => n = sz ∧ vs = nw ∧ nw.length = sz ∧ allOne nw = true) (h : c undef K (OwnA a e sz cap (css.set i nw) :: H')) : WStep P (.store t (eptr a k) v) K H c := by
 refine WStep.conv fun Γ w s => ⟨K, H, s, ?_⟩
 have hcl : cl.length = sz := (s.rem hr).own.1 cl (List.mem_of_getElem? hx)
 rw [qbm] at hv
 obtain ⟨h1, h2, h3, h4⟩ := hv
 refine stA (o := 0) nw hr ht hx (by omega) ?_ h
 rw [qbm]
 refine ⟨by rw [h2, h3, h1], by rw [h2]; exact h4, by omega, ?_, h3, h4⟩
 rw [h2]
 apply List.ext_getElem?
 intro j
 rw [qct 0 nw cl j (by omega)]
 rw [qx1 (by omega)]
 split
 ·rfl
 ·rw [List.getElem?_eq_none (by omega), List.getElem?_eq_none (by omega)]
theorem qtx {α : Type} {l : List α} {n : Nat} {lo hi : Option Int} {c : Value → Prop} (hn : n = l.length) (hr : Rem (OwnA a e sz cap css) H H') (hlc : css.length = l.length) (ht : P.underlying t = some (.slice e)) (hsz : qbc P e = some sz)
  (hb : 0 ≤ loI lo ∧ loI lo ≤ hiI l.length hi ∧ hiI l.length hi ≤ l.length) (h : c (.slice (subA a cap (loI lo).toNat sz) (subL l (loI lo) (hiI l.length hi)).length (cap - (loI lo).toNat))) : RStep P (.slice t (.slice a n cap) (vI lo) (vI hi) none) K H c := by
 refine RStep.conv' fun Γ w s => ?_
 have hle := (s.rem hr).ownLen
 exact RStep.ofN (qrb (l := l) (lo := lo) (hi := hi) ht hsz hn (by rw [hn, ← hlc]; exact hle) hb h)
end
theorem qwl {α β : Type} {css : List β} {l : List α} {lo : Int} (hl : css.length = l.length) (hb : 0 ≤ lo ∧ lo ≤ (l.length : Int) ∧ (l.length : Int) ≤ (l.length : Int)) : (subL l lo (l.length : Int)).length = css.length - lo.toNat := by
 rw [qf3 hb]; omega
theorem qu6 {α β : Type} {css : List β} {l : List α} {lo : Int} (hl : css.length = l.length) (hb : 0 ≤ lo ∧ lo ≤ (l.length : Int) ∧ (l.length : Int) ≤ (l.length : Int)) : lo.toNat ≤ css.length := by omega
theorem qty {α : Type} {l : List α} {lo : Int} {x : α} (hb : 0 ≤ lo ∧ lo ≤ (l.length : Int) ∧ (l.length : Int) ≤ (l.length : Int)) : (clr l lo.toNat x).length = l.length := by
 unfold clr; simp; omega
theorem qtz {α : Type} {l : List α} {lo : Nat} {x : α} (h : 0 < (clr l lo x).length) : 0 < l.length := by
 unfold clr at h; simp at h; omega
open Go
theorem qrn {L H : List HProp} {h : Hp} (x : SepL (qou L :: H) h) : SepL (L ++ H) h := by
 obtain ⟨h1, h2, d, l1, l2, a, r⟩ := x
 exact SepL.flat d l1 l2 a r
theorem qro {L H : List HProp} {h : Hp} (x : SepL (L ++ H) h) : SepL (qou L :: H) h := by
 obtain ⟨h1, h2, d, l1, l2, a, r⟩ := SepL.parts x
 exact ⟨h1, h2, d, l1, l2, a, r⟩
theorem qhc {A : HProp} {R R' : List HProp} (f : ∀ h, SepL R h → SepL R' h) {h : Hp} (x : SepL (A :: R) h) : SepL (A :: R') h := by
 obtain ⟨h1, h2, d, l1, l2, a, r⟩ := x
 exact ⟨h1, h2, d, l1, l2, a, f _ r⟩
theorem Rem.app {A : HProp} {L L' : List HProp} (r : Rem A L L') (H : List HProp) : Rem A (L ++ H) (L' ++ H) := by
 induction r with
 | here => exact .here
 | there _ ih => exact .there ih
theorem qso {A : HProp} : ∀ {L : List HProp} {i : Nat}, L[i]? = some A → Rem A L (L.eraseIdx i)
 | [], i, h => by simp at h
 | B :: L, 0, h => by simp at h; subst h; exact .here
 | B :: L, i + 1, h => .there (qso (L := L) (i := i) (by simpa using h))
def hdR {α : Type} : Rp (List α) := fun _ cs l => ∃ a cap, cs = [.slice a l.length cap]
theorem qu7 {α : Type} : qha 1 (hdR (α := α)) :=
 ⟨fun _ h => h, fun ⟨_, _, h⟩ => by simp [h], fun ⟨_, _, h⟩ v hv => by rw [h] at hv; simp at hv; subst hv; rfl⟩
section
variable {α : Type} {enc : α → List Value} {e e' sz cap : Nat} {a : Option Addr} {css : List (List Value)} {ls : List (List α)}
def elP (enc : α → List Value) (e sz : Nat) (cs : List Value) (l : List α) : HProp := match cs with
 | [.slice a _ cap] => OwnL enc a e sz cap l
 | _ => fun _ => False
def els (enc : α → List Value) (e sz : Nat) : List (List Value) → List (List α) → List HProp
 | c :: css, l :: ls => elP enc e sz c l :: els enc e sz css ls
 | _, _ => []
def OwnE (enc : α → List Value) (e' e sz : Nat) (a : Option Addr) (cap : Nat) (css : List (List Value)) (ls : List (List α)) : HProp := qou (OwnA a e' 1 cap css :: els enc e sz css ls)
def OwnX (enc : α → List Value) (e sz : Nat) (css : List (List Value)) (ls : List (List α)) (i : Nat) : HProp := qou ((els enc e sz css ls).eraseIdx i)
theorem qpo : ∀ {css : List (List Value)} {ls : List (List α)} {i : Nat} {c : List Value} {x : List α}, css[i]? = some c → ls[i]? = some x → (els enc e sz css ls)[i]? = some (elP enc e sz c x)
 | [], _, i, c, x, h, _ => by simp at h
 | c0 :: css, [], i, c, x, _, h => by simp at h
 | c0 :: css, l0 :: ls, 0, c, x, h, k => by simp at h k; subst h k; rfl
 | c0 :: css, l0 :: ls, i + 1, c, x, h, k => by
  rw [els]; simp only [List.getElem?_cons_succ] at h k ⊢; exact qpo h k
theorem qla : ∀ {css : List (List Value)} {ls : List (List α)} {i : Nat} {c : List Value} {x : List α}, (els enc e sz (css.set i c) (ls.set i x)).eraseIdx i = (els enc e sz css ls).eraseIdx i
 | [], [], i, c, x => by simp [els]
 | [], l0 :: ls, i, c, x => by cases i <;> simp [els]
 | c0 :: css, [], i, c, x => by cases i <;> simp [els]
 | c0 :: css, l0 :: ls, 0, c, x => by simp [els]
 | c0 :: css, l0 :: ls, i + 1, c, x => by
  simp only [List.set_cons_succ, els, List.eraseIdx_cons_succ]
  rw [qla]
variable {K : Hp} {H H1 H2 H3 : List HProp} {Γ : World} {w : World}
theorem Sat.closeE {i : Nat} {x : List α} {ai : Option Addr} {ci : Nat} {css' : List (List Value)} {ls' : List (List α)} (r1 : Rem (OwnL enc ai e sz ci x) H H1) (r2 : Rem (OwnA a e' 1 cap css') H1 H2) (r3 : Rem (OwnX enc e sz css ls i) H2 H3)
  (hl : css.length = ls.length) (hi : i < ls.length) (hc : css' = css.set i [.slice ai x.length ci]) (hls : ls' = ls.set i x) (s : Sat Γ K H w) : Sat Γ K (OwnE enc e' e sz a cap css' ls' :: H3) w := by
 subst hc hls
 refine s.conv fun h y => ?_
 have y1 := r1.sep y
 have y2 := qhc (fun _ => r2.sep) y1
 have y3 := qhc (fun _ => qhc fun _ => r3.sep) y2
 have y4 := qhc (fun _ => qhc fun _ => qrn) y3
 have hg : (els enc e sz (css.set i [.slice ai x.length ci]) (ls.set i x))[i]? = some (OwnL enc ai e sz ci x) := qpo (c := [.slice ai x.length ci]) (x := x) (List.getElem?_set_self (by rw [hl]; exact hi)) (List.getElem?_set_self hi)
 have r : Rem (OwnL enc ai e sz ci x) ((OwnA a e' 1 cap (css.set i [.slice ai x.length ci]) :: els enc e sz (css.set i [.slice ai x.length ci]) (ls.set i x)) ++ H3) (OwnA a e' 1 cap (css.set i [.slice ai x.length ci]) :: ((els enc e sz css ls).eraseIdx i ++ H3)) := by
  have := (qso hg).app H3
  rw [qla] at this
  exact .there this
 exact qro (r.sep' y4)
end
section
variable {P : Program} {α : Type} {enc : α → List Value} {e e' sz cap : Nat} {a : Option Addr} {css : List (List Value)} {ls : List (List α)} {K : Hp} {H H1 H2 H3 : List HProp}
variable {ops : Array Oper} {env : List Value} {Q : KP} {m : M} {c : VP} {root : Code} {n : Nat} {p : List Nat} {QC : Exit → KP}
theorem stE {t i k : Nat} {x : List α} {ai : Option Addr} {ci nx : Nat} {y : List α} (r1 : Rem (OwnL enc ai e sz ci x) H H1) (r2 : Rem (OwnA a e' 1 cap css) H1 H2) (r3 : Rem (OwnX enc e sz css ls i) H2 H3) (hl : LR hdR K css ls) (hx : ls[i]? = some y) (hn : nx = x.length)
  (ht : qbc P t = some 1) (hk : k = i * 1 + 0)
  (h : c undef K (OwnE enc e' e sz a cap (css.set i [.slice ai x.length ci]) (ls.set i x) :: H3)) : WStep P (.store t (eptr a k) (.slice ai nx ci)) K H c := by
 subst hn
 obtain ⟨cl, hc, _⟩ := hl.get hx
 have hi : i < ls.length := (List.getElem?_eq_some_iff.1 hx).1
 have hcl := hl.len
 have hm := qxp (P := P) (K := K) (H := OwnA a e' 1 cap css :: OwnL enc ai e sz ci x :: OwnX enc e sz css ls i :: H3) (c := fun v K' H' => v = undef ∧ K' = K ∧ H' = OwnA a e' 1 cap (css.set i [.slice ai x.length ci]) :: OwnL enc ai e sz ci x :: OwnX enc e sz css ls i :: H3)
  (t := t) (k := k) (v := .slice ai x.length ci) [.slice ai x.length ci] .here ht hc (by omega) (by rw [qbm]; exact ⟨rfl, rfl, rfl, rfl⟩) ⟨rfl, rfl, rfl⟩
 refine ⟨fun Γ w s => ?_⟩
 have s1 : Sat Γ K (OwnA a e' 1 cap css :: OwnL enc ai e sz ci x :: OwnX enc e sz css ls i :: H3) w := s.conv fun h y => by
  have y1 := r1.sep y
  have y2 := qhc (fun _ => r2.sep) y1
  have y3 := qhc (fun _ => qhc fun _ => r3.sep) y2
  exact (Rem.there (A := OwnA a e' 1 cap css) Rem.here).sep y3
 obtain ⟨r, w', v, K', H', g1, g2, g3, rfl, rfl, rfl⟩ := hm.out Γ w s1
 refine ⟨r, w', _, _, _, g1, g2, ?_, h⟩
 exact g3.closeE (.there .here) .here .here hcl hi rfl rfl
end
open Go
open Go
section
variable {P : Program} {K : Hp} {H H' : List HProp} {c : VP} {t e sz : Nat} {α : Type} {enc : α → List Value}
def qwm (b e : Nat) (z : Value) (k : Nat) : HProp := Blk b (.cells (madeCells z.cells k) e)
theorem Sat.made {Γ : World} {w : World} {b k : Nat} {z : Value} (x0 : α) (T : ElT P t e sz) (hz : qbk P e = some z) (hx : z.cells.toList = enc x0) (ho : allOne (enc x0) = true) (hk : k ≤ lim) (s : Sat Γ K (qwm b e z (k * sz) :: H) w) :
  Sat Γ K (OwnL enc (some ⟨b, 0, none⟩) e sz k (List.replicate k x0) :: H) w := by
 obtain ⟨ht, hsz, ⟨z', hz', hzs⟩, hpos, ⟨bytes, hby, hb2⟩⟩ := T
 obtain rfl : z = z' := by rw [hz] at hz'; exact Option.some.inj hz'
 have hcs : (enc x0).length = sz := by rw [← hx]; simpa using hzs
 have hml : maxLen = 9223372036854775807 := by decide
 have hmc : (madeCells z.cells (k * sz)).toList = ((List.replicate k x0).map enc).flatten := by
  have := qie z.cells.toList (by rw [hx, hcs]; exact hpos) k
  rw [hx, hcs] at this
  rw [List.map_replicate, ← this]
  congr 2
  rw [← hx]
 refine Sat.mkOwn (cur := madeCells z.cells (k * sz)) s (fun l hl => ?_) (fun l hl => ?_) ?_ (by simp) (by simp only [lim] at hk; rw [hml]; omega) (fun j v hj => ?_)
 ·obtain ⟨x, hx', rfl⟩ := List.mem_map.1 hl
  rw [List.eq_of_mem_replicate hx']; exact hcs
 ·obtain ⟨x, hx', rfl⟩ := List.mem_map.1 hl
  rw [List.eq_of_mem_replicate hx']; exact qbn ho
 ·simp [madeCells]
 ·rw [← Array.getElem?_toList, hmc]; exact hj
variable {ops : Array Oper} {env : List Value} {Q : KP} {m : M} {root : Code} {n : Nat} {p : List Nat} {QC : Exit → KP}
end
open Go
def u64and (x y : Int) : Int := ((BitVec.ofInt 64 x &&& BitVec.ofInt 64 y).toNat : Int)
def u64or (x y : Int) : Int := ((BitVec.ofInt 64 x ||| BitVec.ofInt 64 y).toNat : Int)
def qsp (x y : Int) : Int := IntKind.u64.wrap (x * 2 ^ (min y.toNat 64))
def qsq (x y : Int) : Int := x.fdiv (2 ^ (min y.toNat 64))
theorem qnl {r : BitVec 64} : IntKind.u64.wrap (r.toNat : Int) = (r.toNat : Int) := by
 have := r.isLt
 exact qdq (by simp only [InK]; omega)
section
variable {P : Program} {t : TypeId} {xo yo : Operand} {c : Value → Prop} {x y : Int}
theorem qmn (h : c (.int .u64 (u64and x y))) : NStep P (.bin .and t xo yo (.int .u64 x) (.int .u64 y)) c :=
 NStep.mk _ (fun w => by
  have : IntKind.u64.wrap (((BitVec.ofInt 64 x &&& BitVec.ofInt 64 y).toNat : Nat) : Int) = u64and x y := qnl
  simp only [M.sem, eqGuard, binOp, Op.intBits]
  show Result.ok (Next.value (.int .u64 (IntKind.u64.wrap (((BitVec.ofInt 64 x &&& BitVec.ofInt 64 y).toNat : Nat) : Int)))) w = _
  rw [this]) h
theorem qsr (h : c (.int .u64 (u64or x y))) : NStep P (.bin .or t xo yo (.int .u64 x) (.int .u64 y)) c :=
 NStep.mk _ (fun w => by
  have : IntKind.u64.wrap (((BitVec.ofInt 64 x ||| BitVec.ofInt 64 y).toNat : Nat) : Int) = u64or x y := qnl
  simp only [M.sem, eqGuard, binOp, Op.intBits]
  show Result.ok (Next.value (.int .u64 (IntKind.u64.wrap (((BitVec.ofInt 64 x ||| BitVec.ofInt 64 y).toNat : Nat) : Int)))) w = _
  rw [this]) h
theorem qpp (hy : 0 ≤ y) (h : c (.int .u64 (qsp x y))) : NStep P (.bin .shl t xo yo (.int .u64 x) (.int .i64 y)) c :=
 NStep.mk _ (fun w => by
  simp only [M.sem, eqGuard, binOp, Op.shift, qx1 (Int.not_lt.2 hy)]
  rfl) h
theorem qt0 (hy : 0 ≤ y) (h : c (.int .u64 (qsq x y))) : NStep P (.bin .shr t xo yo (.int .u64 x) (.int .i64 y)) c :=
 NStep.mk _ (fun w => by
  simp only [M.sem, eqGuard, binOp, Op.shift, qx1 (Int.not_lt.2 hy)]
  rfl) h
end
section
variable {P : Program} {K : Hp} {H H' : List HProp} {t e sz b off : Nat}
theorem qbz {k : Nat} {n : Int} {c : Value → Prop} (ht : P.underlying t = some (.array k e)) (hs : qbc P e = some sz) (h0 : 0 ≤ n) (h1 : n < (k : Int))
  (h : c (.pointer (some ⟨b, off + n.toNat * sz, none⟩))) : NStep P (.indexAddr t (.pointer (some ⟨b, off, none⟩)) (.int .i64 n)) c := by
 obtain ⟨i, rfl⟩ : ∃ i : Nat, n = (i : Int) := ⟨n.toNat, by omega⟩
 exact qrg (i := i) rfl ht hs (by simp only [Nat.blt_eq]; omega) (by rw [qck]; simpa using h)
theorem qmo {k : IntKind} {L : List Int} {pre post cs : List Value} {n : Int} (hc : cs = pre ++ (L.map (.int k) ++ post)) (h0 : 0 ≤ n) (h1 : n < (L.length : Int)) : cs[pre.length + n.toNat]? = some (.int k (L.getD n.toNat 0)) := by
 subst hc
 rw [List.getElem?_append_right (by omega), Nat.add_sub_cancel_left, List.getElem?_append_left (by rw [List.length_map]; omega), List.getElem?_map, List.getElem?_eq_getElem (by omega)]
 simp [show n.toNat < L.length by omega]
theorem qlb {k m : Nat} {n : Int} {a : Option Addr} {c : Value → Prop} (ht : P.underlying t = some (.array k e)) (hs : qbc P e = some sz) (ha : Has a) (h0 : 0 ≤ n) (h1 : n < (k : Int))
  (h : c (eptr a (m + n.toNat * sz))) : NStep P (.indexAddr t (eptr a m) (.int .i64 n)) c := by
 obtain ⟨b, off, rfl⟩ := ha
 rw [qbt]
 refine qbz ht hs h0 h1 ?_
 rw [qbt] at h
 rw [Nat.add_assoc]; exact h
theorem qji {v : Value} : ∀ (o : Nat) (l : List Value), o < l.length → splice o [v] l = l.set o v
 | _, [], h => by simp at h
 | 0, x :: l, _ => by cases l <;> simp [splice]
 | o + 1, x :: l, h => by
  simp only [List.length_cons] at h
  rw [splice, qji o l (by omega)]; rfl
theorem qjj {k : IntKind} {L : List Int} {pre post : List Value} {n z : Int} (h0 : 0 ≤ n) (h1 : n < (L.length : Int)) : splice (pre.length + n.toNat) [.int k z] (pre ++ (L.map (.int k) ++ post)) = pre ++ ((L.set n.toNat z).map (.int k) ++ post) := by
 rw [qji _ _ (by simp only [List.length_append, List.length_map]; omega), List.set_append_right _ _ (by omega), Nat.add_sub_cancel_left, List.set_append_left _ _ (by rw [List.length_map]; omega), List.map_set]
theorem qpq {k : IntKind} {L M : List Int} {pre post cs cs' : List Value} {n z : Int} {T o : Nat} {c : VP} (hr : Rem (Cells b T cs) H H') (ht : qbc P t = some 1) (ho : o = pre.length + n.toNat) (hc : cs = pre ++ (L.map (.int k) ++ post)) (h0 : 0 ≤ n) (h1 : n < (L.length : Int))
  (hM : L.set n.toNat z = M) (hc' : cs' = pre ++ (M.map (.int k) ++ post)) (h : c undef K (Cells b T cs' :: H')) : WStep P (.store t (.pointer (some ⟨b, o, none⟩)) (.int k z)) K H c := by
 subst ho hc hc' hM
 refine qaa hr ht ?_
 rw [qbm, qa9]
 show 1 = 1 ∧ _ ∧ _ ∧ c undef K (Cells b T (splice (pre.length + n.toNat) [.int k z] (pre ++ (L.map (.int k) ++ post))) :: H')
 rw [qjj h0 h1]
 exact ⟨rfl, rfl, by simp only [List.length_append, List.length_map]; omega, h⟩
theorem qss {k : IntKind} {L : List Int} {pre post cs : List Value} {n : Int} {T o : Nat} {c : Value → Prop} (hr : Rem (Cells b T cs) H H') (ht : tyShape P t = some none) (ho : o = pre.length + n.toNat) (hc : cs = pre ++ (L.map (.int k) ++ post)) (h0 : 0 ≤ n) (h1 : n < (L.length : Int))
  (h : c (.int k (L.getD n.toNat 0))) : RStepS P (.load t (.pointer (some ⟨b, o, none⟩))) K H c := by
 subst ho
 exact qo5 hr ht (qmo hc h0 h1) h
end
theorem qv7 {β : Type} {M : List Int} {f : Int → β} (h : M.length = 8) : M.map f = [f (M.getD 0 0), f (M.getD 1 0), f (M.getD 2 0), f (M.getD 3 0), f (M.getD 4 0), f (M.getD 5 0), f (M.getD 6 0), f (M.getD 7 0)] := by
 match M, h with
 | [_, _, _, _, _, _, _, _], _ => rfl
theorem qdy {P : Program} {a : Option Addr} {k : Nat} {c : Value → Prop} (ha : Has a) (h : c (eptr a k)) : NStep P (.nilCheck (eptr a k)) c := by
 obtain ⟨b, off, rfl⟩ := ha
 rw [qbt] at h ⊢
 exact qah h
end Go.SL
