/- Own lists whose elements hold slices: an element is stored; the tail is cleared. -/
import Derived.Test.YtpmdpondlmkojaaSL33
import Derived.Lib.SliceRun
set_option linter.unusedVariables false
set_option linter.unusedSimpArgs false
namespace Go.SL
open Go
section
variable {P : Program} {K : Hp} {H H' : List HProp} {a : Option Addr} {e sz cap t : Nat} {c : VP} {css : List (List Value)}
theorem stA {i o k n : Nat} {v : Value} {cl : List Value} (nw : List Value) (hr : Rem (OwnA a e sz cap css) H H') (ht : tySize P t = some n) (hx : css[i]? = some cl) (hk : k = i * sz + o)
    (hv : cellsL v fun vs => n = vs.length ∧ allOne vs = true ∧ o + n ≤ sz ∧ splice o vs cl = nw ∧ nw.length = sz ∧ allOne nw = true) (h : c undef K (OwnA a e sz cap (css.set i nw) :: H')) :
    WStep P (.store t (eptr a k) v) K H c := by
  have := st_own (P := P) (enc := id) (l := css) (e := e) (sz := sz) (cap := cap) (t := t) (c := c) (y := nw) cl (by unfold OwnL; rw [List.map_id]; exact hr) ht hx hk hv (by unfold OwnL; rw [List.map_id]; exact h)
  exact this
theorem LR.set {α : Type} {R : Rp α} {l : List α} {i : Nat} {nw : List Value} {y : α} (h : LR R K css l) (hy : R K nw y) : LR R K (css.set i nw) (l.set i y) := by
  refine ⟨by rw [List.length_set, List.length_set, h.len], fun j c x hc hx => ?_⟩
  by_cases q : i = j
  · subst q
    have h1 := (List.getElem?_eq_some_iff.1 hc).1
    have h2 := (List.getElem?_eq_some_iff.1 hx).1
    simp only [List.length_set] at h1 h2
    rw [List.getElem?_set_self h1] at hc
    rw [List.getElem?_set_self h2] at hx
    cases hc; cases hx; exact hy
  · rw [List.getElem?_set_ne q] at hc hx
    exact h.all j c x hc hx
theorem LR.take {α : Type} {R : Rp α} {l : List α} (h : LR R K css l) (n : Nat) : LR R K (css.take n) (l.take n) := by
  refine ⟨by rw [List.length_take, List.length_take, h.len], fun j c x hc hx => ?_⟩
  rw [List.getElem?_take] at hc hx
  split at hc
  · rename_i q; rw [if_pos q] at hx; exact h.all j c x hc hx
  · cases hc
theorem LR.repl {α : Type} {R : Rp α} {z : List Value} {x : α} (n : Nat) (h : R K z x) : LR R K (List.replicate n z) (List.replicate n x) := by
  refine ⟨by simp, fun j c y hc hy => ?_⟩
  rw [List.getElem?_replicate] at hc hy
  split at hc
  · rename_i q; rw [if_pos q] at hy; cases hc; cases hy; exact h
  · cases hc
/-- The list whose elements from 'lo' on are zero. -/
def clr {α : Type} (l : List α) (lo : Nat) (x : α) : List α := l.take lo ++ List.replicate (l.length - lo) x
theorem LR.clr {α : Type} {R : Rp α} {l : List α} {z : List Value} {x : α} (h : LR R K css l) (lo : Nat) (hx : R K z x) : LR R K (SL.clr css lo z) (SL.clr l lo x) := by
  unfold SL.clr; rw [h.len]; exact (h.take lo).app (LR.repl _ hx)
theorem zero_list (zc : Array Value) (n : Nat) (h : 0 < zc.size) : (Builtin.zeroCells zc n).toList = (List.replicate n zc.toList).flatten := by
  apply List.ext_getElem?
  intro j
  have hl : ∀ n : Nat, (List.replicate n zc.toList).flatten.length = n * zc.size := fun n => by simp
  rcases Nat.lt_or_ge j (n * zc.size) with q | q
  · have hm : j % zc.size < zc.size := Nat.mod_lt _ h
    have h2 : j / zc.size < n := Nat.div_lt_of_lt_mul (by rw [Nat.mul_comm]; exact q)
    have h3 := flat_at (css := List.replicate n zc.toList) (sz := zc.size) (i := j / zc.size) (l := zc.toList) (by
      intro l hl; rw [List.eq_of_mem_replicate hl]; simp) (by rw [List.getElem?_replicate, if_pos h2]) (j % zc.size) zc[j % zc.size] (by simp [hm])
    rw [show j / zc.size * zc.size + j % zc.size = j from by rw [Nat.mul_comm]; exact Nat.div_add_mod j zc.size] at h3
    rw [h3]
    simp [Builtin.zeroCells, q, hm]
  · rw [List.getElem?_eq_none (l := (List.replicate n zc.toList).flatten) (by rw [hl]; exact q), List.getElem?_eq_none (by simp [Builtin.zeroCells]; exact q)]
theorem clearA {lo n e2 c' ty : Nat} {z : Value} {zl : List Value} {cs : Array Bool} (hr : Rem (OwnA a e sz cap css) H H') (ht : P.underlying t = some (.slice e2)) (hz : tyZeroV P e2 = some z) (hzl : z.cells.toList = zl) (hzs : zl.length = sz) (hz1 : allOne zl = true) (hsz : 0 < sz)
    (hn : n = css.length - lo) (hlo : lo ≤ css.length) (h : c (.tuple #[]) K (OwnA a e sz cap (clr css lo zl) :: H')) :
    WStep P (.builtin .clear #[t] ty cs [.slice (subA a cap lo sz) n c']) K H c := by
  have hzero : ∀ w, (zeroValue e2).run P w = .ok z w := by
    obtain ⟨i, hi, hiz⟩ : ∃ i, P.info? e2 = some i ∧ i.zero = some z := by
      unfold tyZeroV at hz
      cases h : P.info? e2 with
      | none => simp [h] at hz
      | some i =>
        refine ⟨i, rfl, ?_⟩
        simp only [h] at hz
        cases h0 : i.zero with
        | none => simp [h0] at hz
        | some z' => simp [h0] at hz; rw [hz]
    intro w
    simp [zeroValue, typeInfo, hi, hiz]
  refine ⟨fun Γ w s => ?_⟩
  rcases Nat.eq_zero_or_pos n with q | q
  · have e0 : clr css lo zl = css := by
      unfold clr
      rw [show css.length - lo = 0 from by omega, List.take_of_length_le (by omega)]; simp
    rw [e0] at h
    refine ⟨_, w, .tuple #[], K, _, ?_, .inl rfl, s.rem hr, h⟩
    subst q
    cases hs : subA a cap lo sz <;> simp [M.sem, builtin, Builtin.clear_, run_underlying ht]
  obtain ⟨hl, ho, hA⟩ := (s.rem hr).own
  rcases hA with ⟨_, _, hn', _⟩ | ⟨b, cur, fz, hfz, rfl, k1, k2, k3, k4, s0⟩
  · subst hn'; simp at hn; omega
  have hfl := flat_len hl
  have hne : cap ≠ lo := by omega
  have hzf : (List.replicate n zl).flatten.length = n * sz := by simp [hzs]
  have hmul : lo * sz + n * sz = css.length * sz := by rw [← Nat.add_mul]; congr 1; omega
  have hle : css.length * sz ≤ cur.size := Nat.le_trans (Nat.mul_le_mul_right _ k2) k1
  obtain ⟨w', hrun, hs⟩ := Sat.storeCellsF (P := P) (fz := fz) (List.replicate n zl).flatten (lo * sz) 0 cur.toList w (by simpa using s0) (by rw [hzf]; simp only [Array.length_toList]; omega) (fun v hv => by
    obtain ⟨m, hm, hv⟩ := List.mem_flatten.1 hv
    rw [List.eq_of_mem_replicate hm] at hv; exact allOne_spec hz1 v hv) (by simpa using hfz)
  refine ⟨_, w', .tuple #[], K, _, ?_, .inl rfl, ?_, h⟩
  · have hsub : subA (some ⟨b, 0, none⟩) cap lo sz = some ⟨b, lo * sz, none⟩ := by unfold subA; rw [if_neg hne]; simp [Addr.add]; try exact fun h => h.symm
    have hzc : (Builtin.zeroCells z.cells n).toList = (List.replicate n zl).flatten := by
      rw [zero_list _ _ (by have : z.cells.size = sz := by rw [← hzs, ← hzl]; simp
                            omega), hzl]
    rw [hsub]
    obtain ⟨m, rfl⟩ : ∃ m, n = m + 1 := ⟨n - 1, by omega⟩
    simp [M.sem, builtin, Builtin.clear_, run_underlying ht, hzero, hzc, hrun]
  · have hall : ∀ m ∈ clr css lo zl, m.length = sz ∧ ∀ v ∈ m, v.oneCell' = true := fun m hm => by
      unfold clr at hm
      rcases List.mem_append.1 hm with h | h
      · have h := List.mem_of_mem_take h; exact ⟨hl m h, ho m h⟩
      · rw [List.eq_of_mem_replicate h]; exact ⟨hzs, allOne_spec hz1⟩
    have hcl : (clr css lo zl).length = css.length := by unfold clr; simp; omega
    have hspl : (splice (lo * sz + 0) (List.replicate n zl).flatten cur.toList).length = cur.toList.length := by
      rcases splice_len (lo * sz + 0) (List.replicate n zl).flatten cur.toList with h' | h'
      · exact h'
      · rw [hzf] at h'; simp only [Array.length_toList] at h'; omega
    refine hs.mkOwnF ?_ (fun m hm => (hall m hm).1) (fun m hm => (hall m hm).2) ?_ (by rw [hcl]; exact k2) k3 ?_
    · rcases hfz with h | h
      · exact .inl h
      · right
        rw [show (splice (lo * sz + 0) (List.replicate n zl).flatten cur.toList).toArray.size = cur.toList.length from by simpa using hspl]; simpa using h
    · rw [show (splice (lo * sz + 0) (List.replicate n zl).flatten cur.toList).toArray.size = cur.size from by simpa using hspl]; exact k1
    · intro j u hu
      have hg := splice_get (lo * sz + 0) (List.replicate n zl).flatten cur.toList j (by rw [hzf]; simp only [Array.length_toList]; omega)
      have htl : (css.take lo).flatten.length = lo * sz := by rw [flat_len (css := css.take lo) (sz := sz) (fun m hm => hl m (List.mem_of_mem_take hm)), List.length_take, Nat.min_eq_left hlo]
      have hu2 : ((css.take lo).flatten ++ (List.replicate n zl).flatten)[j]? = some u := by
        unfold clr at hu; rw [List.flatten_append, ← hn] at hu; exact hu
      have key : (splice (lo * sz + 0) (List.replicate n zl).flatten cur.toList)[j]? = some u := by
        rw [hg]
        rcases Nat.lt_or_ge j (lo * sz) with q1 | q1
        · rw [if_pos (by omega)]
          rw [List.getElem?_append_left (by rw [htl]; exact q1)] at hu2
          have : css.flatten[j]? = some u := by
            have e1 : css.flatten = (css.take lo).flatten ++ (css.drop lo).flatten := by rw [← List.flatten_append, List.take_append_drop]
            rw [e1, List.getElem?_append_left (by rw [htl]; exact q1)]; exact hu2
          simpa using k4 j u this
        · rw [List.getElem?_append_right (by rw [htl]; exact q1), htl] at hu2
          have := (List.getElem?_eq_some_iff.1 hu2).1
          rw [hzf] at this
          rw [if_neg (by omega), if_pos (by rw [hzf]; omega)]
          simpa using hu2
      simpa using key
/-- A part of a slice, not from its head: its value alone. -/
theorem sl_partA {n e2 len : Nat} {lo hi : Option Int} {c : Value → Prop} (ht : P.underlying t = some (.slice e2)) (hsz : tySize P e2 = some sz) (hn : n = len) (hcap : len ≤ cap) (hb : 0 ≤ loI lo ∧ loI lo ≤ hiI len hi ∧ hiI len hi ≤ len)
    (h : c (.slice (subA a cap (loI lo).toNat sz) (subL (List.replicate len ()) (loI lo) (hiI len hi)).length (cap - (loI lo).toNat))) : NStep P (.slice t (.slice a n cap) (vI lo) (vI hi) none) c := by
  have := sl_sl (P := P) (l := List.replicate len ()) (c := c) (a := a) (cap := cap) (n := n) (lo := lo) (hi := hi) ht hsz (by simpa using hn) (by omega) (by simpa using hb) (by simpa using h)
  simpa using this
theorem stA0 {i k n : Nat} {v : Value} {cl : List Value} (nw : List Value) (hr : Rem (OwnA a e sz cap css) H H') (ht : tySize P t = some n) (hx : css[i]? = some cl) (hk : k = i * sz)
    (hv : cellsL v fun vs => n = sz ∧ vs = nw ∧ nw.length = sz ∧ allOne nw = true) (h : c undef K (OwnA a e sz cap (css.set i nw) :: H')) : WStep P (.store t (eptr a k) v) K H c := by
  refine WStep.conv fun Γ w s => ⟨K, H, s, ?_⟩
  have hcl : cl.length = sz := (s.rem hr).own.1 cl (List.mem_of_getElem? hx)
  rw [cellsL_eq] at hv
  obtain ⟨h1, h2, h3, h4⟩ := hv
  refine stA (o := 0) nw hr ht hx (by omega) ?_ h
  rw [cellsL_eq]
  refine ⟨by rw [h2, h3, h1], by rw [h2]; exact h4, by omega, ?_, h3, h4⟩
  rw [h2]
  apply List.ext_getElem?
  intro j
  rw [splice_get 0 nw cl j (by omega)]
  rw [if_neg (by omega)]
  split
  · rfl
  · rw [List.getElem?_eq_none (by omega), List.getElem?_eq_none (by omega)]
theorem ownPart {α : Type} {l : List α} {n : Nat} {lo hi : Option Int} {c : Value → Prop} (hn : n = l.length) (hr : Rem (OwnA a e sz cap css) H H') (hlc : css.length = l.length) (ht : P.underlying t = some (.slice e)) (hsz : tySize P e = some sz)
    (hb : 0 ≤ loI lo ∧ loI lo ≤ hiI l.length hi ∧ hiI l.length hi ≤ l.length) (h : c (.slice (subA a cap (loI lo).toNat sz) (subL l (loI lo) (hiI l.length hi)).length (cap - (loI lo).toNat))) : RStep P (.slice t (.slice a n cap) (vI lo) (vI hi) none) K H c := by
  refine RStep.conv' fun Γ w s => ?_
  have hle := (s.rem hr).ownLen
  exact RStep.ofN (sl_sl (l := l) (lo := lo) (hi := hi) ht hsz hn (by rw [hn, ← hlc]; exact hle) hb h)
end
theorem clr_n {α β : Type} {css : List β} {l : List α} {lo : Int} (hl : css.length = l.length) (hb : 0 ≤ lo ∧ lo ≤ (l.length : Int) ∧ (l.length : Int) ≤ (l.length : Int)) : (subL l lo (l.length : Int)).length = css.length - lo.toNat := by
  rw [subL_len hb]; omega
theorem clr_le {α β : Type} {css : List β} {l : List α} {lo : Int} (hl : css.length = l.length) (hb : 0 ≤ lo ∧ lo ≤ (l.length : Int) ∧ (l.length : Int) ≤ (l.length : Int)) : lo.toNat ≤ css.length := by omega
theorem clr_len {α : Type} {l : List α} {lo : Int} {x : α} (hb : 0 ≤ lo ∧ lo ≤ (l.length : Int) ∧ (l.length : Int) ≤ (l.length : Int)) : (clr l lo.toNat x).length = l.length := by
  unfold clr; simp; omega
theorem clr_pos {α : Type} {l : List α} {lo : Nat} {x : α} (h : 0 < (clr l lo x).length) : 0 < l.length := by
  unfold clr at h; simp at h; omega
end Go.SL
