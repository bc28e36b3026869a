/- The library: facts about walks, over any program. -/
import Derived.Test.YtpmdpondlmkojaaLM
import Derived.Lib.SliceRun
set_option linter.unusedVariables false
set_option linter.unusedSimpArgs false
set_option linter.unusedSectionVars false
set_option linter.unusedVariables false
set_option linter.unusedSimpArgs false
namespace Go.SL
open Go
section
variable {P : Program} {K : Hp} {H H' : List HProp} {a : Option Addr} {e sz cap t : Nat} {c : VP} {css : List (List Value)}
theorem stA {i o k n : Nat} {v : Value} {cl : List Value} (nw : List Value) (hr : Rem (OwnA a e sz cap css) H H') (ht : tySize P t = some n) (hx : css[i]? = some cl) (hk : k = i * sz + o)
    (hv : cellsL v fun vs => n = vs.length ∧ allOne vs = true ∧ o + n ≤ sz ∧ splice o vs cl = nw ∧ nw.length = sz ∧ allOne nw = true) (h : c undef K (OwnA a e sz cap (css.set i nw) :: H')) :
    WStep P (.store t (eptr a k) v) K H c := by
  have := st_own (P := P) (enc := id) (l := css) (e := e) (sz := sz) (cap := cap) (t := t) (c := c) (y := nw) cl (by unfold OwnL; rw [List.map_id]; exact hr) ht hx hk hv (by unfold OwnL; rw [List.map_id]; exact h)
  exact this
theorem LR.set {α : Type} {R : Rp α} {l : List α} {i : Nat} {nw : List Value} {y : α} (h : LR R K css l) (hy : R K nw y) : LR R K (css.set i nw) (l.set i y) := by
  refine ⟨by rw [List.length_set, List.length_set, h.len], fun j c x hc hx => ?_⟩
  by_cases q : i = j
  · subst q
    have h1 := (List.getElem?_eq_some_iff.1 hc).1
    have h2 := (List.getElem?_eq_some_iff.1 hx).1
    simp only [List.length_set] at h1 h2
    rw [List.getElem?_set_self h1] at hc
    rw [List.getElem?_set_self h2] at hx
    cases hc; cases hx; exact hy
  · rw [List.getElem?_set_ne q] at hc hx
    exact h.all j c x hc hx
theorem LR.take {α : Type} {R : Rp α} {l : List α} (h : LR R K css l) (n : Nat) : LR R K (css.take n) (l.take n) := by
  refine ⟨by rw [List.length_take, List.length_take, h.len], fun j c x hc hx => ?_⟩
  rw [List.getElem?_take] at hc hx
  split at hc
  · rename_i q; rw [if_pos q] at hx; exact h.all j c x hc hx
  · cases hc
theorem LR.repl {α : Type} {R : Rp α} {z : List Value} {x : α} (n : Nat) (h : R K z x) : LR R K (List.replicate n z) (List.replicate n x) := by
  refine ⟨by simp, fun j c y hc hy => ?_⟩
  rw [List.getElem?_replicate] at hc hy
  split at hc
  · rename_i q; rw [if_pos q] at hy; cases hc; cases hy; exact h
  · cases hc
theorem stA0 {i k n : Nat} {v : Value} {cl : List Value} (nw : List Value) (hr : Rem (OwnA a e sz cap css) H H') (ht : tySize P t = some n) (hx : css[i]? = some cl) (hk : k = i * sz)
    (hv : cellsL v fun vs => n = sz ∧ vs = nw ∧ nw.length = sz ∧ allOne nw = true) (h : c undef K (OwnA a e sz cap (css.set i nw) :: H')) : WStep P (.store t (eptr a k) v) K H c := by
  refine WStep.conv fun Γ w s => ⟨K, H, s, ?_⟩
  have hcl : cl.length = sz := (s.rem hr).own.1 cl (List.mem_of_getElem? hx)
  rw [cellsL_eq] at hv
  obtain ⟨h1, h2, h3, h4⟩ := hv
  refine stA (o := 0) nw hr ht hx (by omega) ?_ h
  rw [cellsL_eq]
  refine ⟨by rw [h2, h3, h1], by rw [h2]; exact h4, by omega, ?_, h3, h4⟩
  rw [h2]
  apply List.ext_getElem?
  intro j
  rw [splice_get 0 nw cl j (by omega)]
  rw [if_neg (by omega)]
  split
  · rfl
  · rw [List.getElem?_eq_none (by omega), List.getElem?_eq_none (by omega)]
end
end Go.SL
set_option linter.unusedVariables false
set_option linter.unusedSimpArgs false
namespace Go.SL
open Go
section
variable {P : Program}
theorem append_keepO {Γ : World} {K : Hp} {t tx e ty sz bytes cap : Nat} {z : Value} {a : Option Addr} {x : Value} {css news : List (List Value)} {H : List HProp} {w : World} (s : Sat Γ K (OwnA a e sz cap css :: H) w)
    (ht : P.underlying t = some (.slice e)) (hsz : tySize P e = some sz) (hz : tyZeroV P e = some z) (hzs : z.cells.size = sz) (hpos : 0 < sz) (hby : tyBytes P e = some bytes)
    (hs : SrcOK P K H sz tx x news) (h63 : css.length + news.length ≤ maxLen) (hb : (css.length + news.length) * bytes ≤ 140737488355328) :
    ∃ a' cap' w', (Builtin.append_ #[t, tx] ty #[.slice a css.length cap, x]).run P w = .ok (.slice a' (css.length + news.length) cap') w' ∧
      ((a' = a ∧ cap' = cap ∧ Sat Γ K (OwnA a e sz cap (css ++ news) :: H) w') ∨ Sat Γ K (OwnA a' e sz cap' (css ++ news) :: OwnA a e sz cap css :: H) w') := by
  have hcap : css.length ≤ cap := s.ownLen
  obtain ⟨hl, ho, hA⟩ := s.own
  obtain ⟨i, hi, hisz⟩ : ∃ i, P.info? e = some i ∧ i.size = sz := by
    unfold tySize at hsz
    cases h : P.info? e with
    | none => simp [h] at hsz
    | some i => simp [h] at hsz; exact ⟨i, rfl, hsz⟩
  have hiz : i.zero = some z := by
    unfold tyZeroV at hz
    simp only [hi, Option.map_some] at hz
    cases h : i.zero with
    | none => simp [h] at hz
    | some z' => simp [h] at hz; rw [hz]
  have hib : i.bytes = bytes := by unfold tyBytes at hby; simpa [hi] using hby
  have hsrc := hs.src Γ w (s.drop)
  have hml : maxLen = 9223372036854775807 := by decide
  have hlall : ∀ l ∈ css ++ news, l.length = sz := fun l h => by rcases List.mem_append.1 h with h | h; exact hl l h; exact hs.len l h
  have hoall : ∀ l ∈ css ++ news, ∀ v ∈ l, v.oneCell' = true := fun l h => by rcases List.mem_append.1 h with h | h; exact ho l h; exact hs.one l h
  have hfl := flat_len hl
  have hfn := flat_len hs.len
  have grow : ∀ (base : Option Addr) (H2 : List HProp) (H0 : Sat Γ K H2 w) (hold : (Builtin.firstCells i.size css.length (.slice base css.length cap)).run P w.drew = .ok css.flatten.toArray w.drew) (hg : cap < css.length + news.length),
      ∃ a' cap' w', (Builtin.append_ #[t, tx] ty #[.slice base css.length cap, x]).run P w = .ok (.slice a' (css.length + news.length) cap') w' ∧ Sat Γ K (OwnA a' e sz cap' (css ++ news) :: H2) w' := by
    intro base H2 H0 hold hg
    have hfit := growslice_fits (bytes := i.bytes) hg (by rw [hib]; exact hb)
    have hr := run_append_grow_src (P := P) w t tx ty e i z ht hi hiz base css.length cap css.flatten hold x news.length news.flatten (by rw [hisz]; exact hsrc) hg (by omega) hfit
    have hge := grownCap_ge w (css.length + news.length) cap e
    have hcm := grownCap_le_maxLen w (css.length + news.length) cap e h63
    refine ⟨_, _, _, hr, ?_⟩
    refine (Sat.push (w := w.drew) H0.drew).mkOwn hlall hoall ?_ (by simpa using hge) hcm ?_
    · simp only [Array.size_append, List.size_toArray, List.length_append, size_zeroCells, hzs, hfl, hfn, ← Nat.add_mul]
      exact Nat.le_of_eq (by congr 1; omega)
    · intro j v hj
      have hlt : j < (css ++ news).flatten.length := (List.getElem?_eq_some_iff.1 hj).1
      rw [Array.getElem?_append_left (by simpa using hlt)]
      simpa using hj
  rcases hA with ⟨rfl, rfl, rfl, s0⟩ | ⟨b, cur, fz, hfz, rfl, k1, k2, k3, k4, s0⟩
  · by_cases hn : news = []
    · subst hn
      refine ⟨none, 0, w, ?_, .inl ⟨rfl, rfl, by simpa using s⟩⟩
      have hroom : (0 : Nat) + 0 ≤ 0 := by omega
      have hlen := hsrc.len
      have hcl := hsrc.cells
      rcases hsrc.kind with ⟨e', hk⟩ | hk
      · simp only [List.length_nil, List.flatten_nil] at hlen hcl ⊢
        simp [Builtin.append_, run_underlying ht, run_underlying hk, run_sizeOf' hsz, hlen w, hcl]
      · simp only [List.length_nil, List.flatten_nil] at hlen hcl ⊢
        simp [Builtin.append_, run_underlying ht, run_underlying hk, run_sizeOf' hsz, hlen w, hcl]
    · have hpos' : 0 < news.length := List.length_pos_iff.2 hn
      obtain ⟨a', cap', w', h1, h2⟩ := grow none _ s (by simp [Builtin.firstCells]) (by simpa using hpos')
      exact ⟨a', cap', w', h1, .inr h2⟩
  · by_cases hroom : css.length + news.length ≤ cap
    · obtain ⟨w', hst, hs'⟩ := Sat.storeCellsF (P := P) (b := b) (T := e) (fz := fz) news.flatten (css.length * sz) 0 cur.toList w (by simpa using s0) (by
        simp only [Nat.add_zero, hfn, Array.length_toList, ← Nat.add_mul]
        exact Nat.le_trans (Nat.mul_le_mul_right _ hroom) k1) (fun v hv => by
          obtain ⟨l, hl', hv⟩ := List.mem_flatten.1 hv
          exact hs.one l hl' v hv) (by simpa using hfz)
      have hle : css.length * sz + 0 + news.flatten.length ≤ cur.toList.length := by
        simp only [Nat.add_zero, hfn, Array.length_toList, ← Nat.add_mul]
        exact Nat.le_trans (Nat.mul_le_mul_right _ hroom) k1
      have hown : Sat Γ K (OwnA (some ⟨b, 0, none⟩) e sz cap (css ++ news) :: H) w' := by
        refine hs'.mkOwnF ?_ hlall hoall ?_ (by simpa using hroom) k3 ?_
        · rcases hfz with h | h
          · exact .inl h
          · rcases splice_len (css.length * sz + 0) news.flatten cur.toList with h' | h'
            · right; rw [show (splice (css.length * sz + 0) news.flatten cur.toList).toArray.size = cur.toList.length from by simpa using h']; simpa using h
            · omega
        · rcases splice_len (css.length * sz + 0) news.flatten cur.toList with h | h
          · rw [show (splice (css.length * sz + 0) news.flatten cur.toList).toArray.size = cur.size from by simpa using h]; exact k1
          · omega
        · intro j v hj
          rw [List.getElem?_toArray, splice_get _ _ _ _ hle]
          simp only [List.flatten_append] at hj
          rw [List.getElem?_append, hfl] at hj
          simp only [Nat.add_zero]
          split at hj
          · rename_i h1; rw [if_pos h1]; simpa using k4 j v (by rw [hj])
          · rename_i h1
            rw [if_neg h1, if_pos (by have := (List.getElem?_eq_some_iff.1 hj).1; omega)]
            exact hj
      refine ⟨some ⟨b, 0, none⟩, cap, w', ?_, .inl ⟨rfl, rfl, hown⟩⟩
      have hlen := hsrc.len
      have hcl := hsrc.cells
      rcases hsrc.kind with ⟨e', hk⟩ | hk <;>
        simp [Builtin.append_, run_underlying ht, run_underlying hk, run_sizeOf' hsz, hlen w, hroom, hcl, addr_add, hst]
    · obtain ⟨a', cap', w', h1, h2⟩ := grow (some ⟨b, 0, none⟩) _ s (by
        have : ∀ j u, css.flatten[j]? = some u → w.drew.cell? ((⟨b, 0, none⟩ : Addr).add j) = some u := fun j u hu => by
          have h1 := s0.blk
          have h2 : w.drew.heap[b]? = some (.cells cur e fz) := h1
          rw [addr_add]
          simp only [World.cell?, h2]
          simpa using k4 j u hu
        exact run_firstCells_some w.drew i.size css.length ⟨b, 0, none⟩ css.length cap css.flatten (by rw [hfl, hisz]) this) (by omega)
      exact ⟨a', cap', w', h1, .inr h2⟩
end
theorem sep_flat {L H : List HProp} {h : Hp} (x : SepL (SepH L :: H) h) : SepL (L ++ H) h := by
  obtain ⟨h1, h2, d, l1, l2, a, r⟩ := x
  exact SepL.flat d l1 l2 a r
theorem sep_fold {L H : List HProp} {h : Hp} (x : SepL (L ++ H) h) : SepL (SepH L :: H) h := by
  obtain ⟨h1, h2, d, l1, l2, a, r⟩ := SepL.parts x
  exact ⟨h1, h2, d, l1, l2, a, r⟩
theorem sep_tl {A : HProp} {R R' : List HProp} (f : ∀ h, SepL R h → SepL R' h) {h : Hp} (x : SepL (A :: R) h) : SepL (A :: R') h := by
  obtain ⟨h1, h2, d, l1, l2, a, r⟩ := x
  exact ⟨h1, h2, d, l1, l2, a, f _ r⟩
theorem Rem.app {A : HProp} {L L' : List HProp} (r : Rem A L L') (H : List HProp) : Rem A (L ++ H) (L' ++ H) := by
  induction r with
  | here => exact .here
  | there _ ih => exact .there ih
theorem rem_at {A : HProp} : ∀ {L : List HProp} {i : Nat}, L[i]? = some A → Rem A L (L.eraseIdx i)
  | [], i, h => by simp at h
  | B :: L, 0, h => by simp at h; subst h; exact .here
  | B :: L, i + 1, h => .there (rem_at (L := L) (i := i) (by simpa using h))
def hdR {α : Type} : Rp (List α) := fun _ cs l => ∃ a cap, cs = [.slice a l.length cap]
theorem hdR_ok {α : Type} : RpOK 1 (hdR (α := α)) :=
  ⟨fun _ h => h, fun ⟨_, _, h⟩ => by simp [h], fun ⟨_, _, h⟩ v hv => by rw [h] at hv; simp at hv; subst hv; rfl⟩
section
variable {α : Type} {enc : α → List Value} {e e' sz cap : Nat} {a : Option Addr} {css : List (List Value)} {ls : List (List α)}
def elP (enc : α → List Value) (e sz : Nat) (cs : List Value) (l : List α) : HProp := match cs with
  | [.slice a _ cap] => OwnL enc a e sz cap l
  | _ => fun _ => False
def els (enc : α → List Value) (e sz : Nat) : List (List Value) → List (List α) → List HProp
  | c :: css, l :: ls => elP enc e sz c l :: els enc e sz css ls
  | _, _ => []
/-- The list, and its elements. -/
def OwnE (enc : α → List Value) (e' e sz : Nat) (a : Option Addr) (cap : Nat) (css : List (List Value)) (ls : List (List α)) : HProp := SepH (OwnA a e' 1 cap css :: els enc e sz css ls)
/-- The elements but the i-th. -/
def OwnX (enc : α → List Value) (e sz : Nat) (css : List (List Value)) (ls : List (List α)) (i : Nat) : HProp := SepH ((els enc e sz css ls).eraseIdx i)
theorem els_get : ∀ {css : List (List Value)} {ls : List (List α)} {i : Nat} {c : List Value} {x : List α}, css[i]? = some c → ls[i]? = some x → (els enc e sz css ls)[i]? = some (elP enc e sz c x)
  | [], _, i, c, x, h, _ => by simp at h
  | c0 :: css, [], i, c, x, _, h => by simp at h
  | c0 :: css, l0 :: ls, 0, c, x, h, k => by simp at h k; subst h k; rfl
  | c0 :: css, l0 :: ls, i + 1, c, x, h, k => by
    rw [els]; simp only [List.getElem?_cons_succ] at h k ⊢; exact els_get h k
theorem els_erase : ∀ {css : List (List Value)} {ls : List (List α)} {i : Nat} {c : List Value} {x : List α}, (els enc e sz (css.set i c) (ls.set i x)).eraseIdx i = (els enc e sz css ls).eraseIdx i
  | [], [], i, c, x => by simp [els]
  | [], l0 :: ls, i, c, x => by cases i <;> simp [els]
  | c0 :: css, [], i, c, x => by cases i <;> simp [els]
  | c0 :: css, l0 :: ls, 0, c, x => by simp [els]
  | c0 :: css, l0 :: ls, i + 1, c, x => by
    simp only [List.set_cons_succ, els, List.eraseIdx_cons_succ]
    rw [els_erase]
variable {K : Hp} {H H1 H2 H3 : List HProp} {Γ : World} {w : World}
theorem Sat.openE {i : Nat} {x : List α} (hr : Rem (OwnE enc e' e sz a cap css ls) H H1) (hl : LR hdR K css ls) (hx : ls[i]? = some x) (s : Sat Γ K H w) :
    ∃ ai ci, css[i]? = some [.slice ai x.length ci] ∧ (0 < x.length → Has ai) ∧ Sat Γ K (OwnL enc ai e sz ci x :: OwnA a e' 1 cap css :: OwnX enc e sz css ls i :: H1) w := by
  obtain ⟨c, hc, ai, ci, rfl⟩ := hl.get hx
  have s2 : Sat Γ K (OwnL enc ai e sz ci x :: OwnA a e' 1 cap css :: OwnX enc e sz css ls i :: H1) w := (s.rem hr).conv fun h y => by
    have y1 := sep_flat y
    have r : Rem (OwnL enc ai e sz ci x) ((OwnA a e' 1 cap css :: els enc e sz css ls) ++ H1) (OwnA a e' 1 cap css :: ((els enc e sz css ls).eraseIdx i ++ H1)) := .there ((rem_at (els_get (enc := enc) (e := e) (sz := sz) hc hx)).app H1)
    exact sep_tl (fun _ => sep_tl fun _ => sep_fold) (r.sep y1)
  refine ⟨ai, ci, hc, fun hp => ?_, s2⟩
  obtain ⟨_, _, hA⟩ := s2.own
  rcases hA with ⟨_, _, hn, _⟩ | ⟨b, _, _, _, rfl, _⟩
  · have := congrArg List.length hn; simp at this; subst this; simp at hp
  · exact ⟨_, _, rfl⟩
theorem Sat.closeE {i : Nat} {x : List α} {ai : Option Addr} {ci : Nat} {css' : List (List Value)} {ls' : List (List α)} (r1 : Rem (OwnL enc ai e sz ci x) H H1) (r2 : Rem (OwnA a e' 1 cap css') H1 H2) (r3 : Rem (OwnX enc e sz css ls i) H2 H3)
    (hl : css.length = ls.length) (hi : i < ls.length) (hc : css' = css.set i [.slice ai x.length ci]) (hls : ls' = ls.set i x) (s : Sat Γ K H w) : Sat Γ K (OwnE enc e' e sz a cap css' ls' :: H3) w := by
  subst hc hls
  refine s.conv fun h y => ?_
  have y1 := r1.sep y
  have y2 := sep_tl (fun _ => r2.sep) y1
  have y3 := sep_tl (fun _ => sep_tl fun _ => r3.sep) y2
  have y4 := sep_tl (fun _ => sep_tl fun _ => sep_flat) y3
  have hg : (els enc e sz (css.set i [.slice ai x.length ci]) (ls.set i x))[i]? = some (OwnL enc ai e sz ci x) := els_get (c := [.slice ai x.length ci]) (x := x) (List.getElem?_set_self (by rw [hl]; exact hi)) (List.getElem?_set_self hi)
  have r : Rem (OwnL enc ai e sz ci x) ((OwnA a e' 1 cap (css.set i [.slice ai x.length ci]) :: els enc e sz (css.set i [.slice ai x.length ci]) (ls.set i x)) ++ H3) (OwnA a e' 1 cap (css.set i [.slice ai x.length ci]) :: ((els enc e sz css ls).eraseIdx i ++ H3)) := by
    have := (rem_at hg).app H3
    rw [els_erase] at this
    exact .there this
  exact sep_fold (r.sep' y4)
theorem set_self {β : Type} {l : List β} {i : Nat} {x : β} (h : l[i]? = some x) : l = l.set i x := by
  apply List.ext_getElem?
  intro j
  by_cases q : i = j
  · subst q
    rw [List.getElem?_set_self (List.getElem?_eq_some_iff.1 h).1, h]
  · rw [List.getElem?_set_ne q]
end
section
variable {P : Program} {α : Type} {enc : α → List Value} {e e' sz cap : Nat} {a : Option Addr} {css : List (List Value)} {ls : List (List α)} {K : Hp} {H H1 H2 H3 : List HProp}
variable {ops : Array Oper} {env : List Value} {Q : KP} {m : M} {c : VP} {root : Code} {n : Nat} {p : List Nat} {QC : Exit → KP}
/-- append onto a slice that stays what it is: in place, or into a new block. -/
theorem apEO {t tx ty k : Nat} {x : Value} {l new : List α} {cs : Array Bool} {H' : List HProp} (hn : k = l.length) (hr : Rem (OwnL enc a e sz cap l) H H') (T : ElT P t e sz) (hs : SrcOK P K H' sz tx x (new.map enc)) (hl : l.length + new.length ≤ lim)
    (h1 : c (.slice a (l ++ new).length cap) K (OwnL enc a e sz cap (l ++ new) :: H'))
    (h2 : ∀ a' cap', c (.slice a' (l ++ new).length cap') K (OwnL enc a' e sz cap' (l ++ new) :: OwnL enc a e sz cap l :: H')) :
    WStep P (.builtin .append #[t, tx] ty cs [.slice a k cap, x]) K H c := by
  subst hn
  obtain ⟨z, hz, hzs⟩ := T.hz
  obtain ⟨by_, hby, hbb⟩ := T.hby
  refine ⟨fun Γ w s => ?_⟩
  have hlm : (l.map enc).length = l.length := List.length_map _
  have hlm2 : (new.map enc).length = new.length := List.length_map _
  obtain ⟨a', cap', w', g1, g2⟩ := append_keepO (ty := ty) (s.rem hr) T.ht T.hsz hz hzs T.hpos hby hs (by simp only [maxLen, List.length_map, lim] at hl ⊢; omega) (limb (by simpa using hl) hbb)
  rw [hlm, hlm2] at g1
  rcases g2 with ⟨rfl, rfl, g2⟩ | g2
  · rw [List.length_append] at h1
    exact ⟨_, w', _, K, _, by simp [M.sem, Go.builtin, g1], .inl rfl, by rw [← List.map_append] at g2; exact g2, h1⟩
  · have := h2 a' cap'
    rw [List.length_append] at this
    exact ⟨_, w', _, K, _, by simp [M.sem, Go.builtin, g1], .inl rfl, by rw [← List.map_append] at g2; exact g2, this⟩
theorem els_nil {h : Hp} : ∀ (n : Nat), SepL H h → SepL (els enc e sz (List.replicate n [.slice none 0 0]) (List.replicate n ([] : List α)) ++ H) h
  | 0, x => x
  | n + 1, x => ⟨fun _ => none, h, fun _ => .inl rfl, Hp.emp_le _, .refl _, ⟨fun _ h => (by cases h), fun _ h => (by cases h), .inl ⟨rfl, rfl, rfl⟩⟩, els_nil n x⟩
theorem mk_sliceE {t : Nat} {z : Value} {n : Int} (T : ElT P t e' 1) (hz : tyZeroV P e' = some z) (hx : z.cells.toList = [.slice none 0 0]) (hn : 0 ≤ n ∧ n ≤ (lim : Int))
    (h : ∀ b, c (.slice (some ⟨b, 0, none⟩) n.toNat n.toNat) K (OwnE enc e' e sz (some ⟨b, 0, none⟩) n.toNat (List.replicate n.toNat [.slice none 0 0]) (List.replicate n.toNat ([] : List α)) :: H)) : WStep P (.makeSlice t (.int .i64 n) (.int .i64 n)) K H c := by
  have hm := mk_slice (P := P) (enc := id) (K := K) (H := H) (c := fun v K' H' => ∃ b, v = .slice (some ⟨b, 0, none⟩) n.toNat n.toNat ∧ K' = K ∧ H' = OwnL id (some ⟨b, 0, none⟩) e' 1 n.toNat (List.replicate n.toNat [.slice none 0 0]) :: H) (n := n) [.slice none 0 0] T hz hx rfl hn (fun b => ⟨b, rfl, rfl, rfl⟩)
  refine ⟨fun Γ w s => ?_⟩
  obtain ⟨r, w', v, K', H', g1, g2, g3, b, rfl, rfl, rfl⟩ := hm.out Γ w s
  refine ⟨r, w', _, _, _, g1, g2, g3.conv fun h y => ?_, h b⟩
  have y1 : SepL (OwnA (some ⟨b, 0, none⟩) e' 1 n.toNat (List.replicate n.toNat [.slice none 0 0]) :: H) h := by
    have : OwnL id (some ⟨b, 0, none⟩) e' 1 n.toNat (List.replicate n.toNat [.slice none 0 0]) = OwnA (some ⟨b, 0, none⟩) e' 1 n.toNat (List.replicate n.toNat [.slice none 0 0]) := by unfold OwnL; rw [List.map_id]
    rw [this] at y; exact y
  exact sep_fold (sep_tl (fun _ => els_nil n.toNat) y1)
end
section
variable {P : Program} {α : Type} {enc : α → List Value} {e e' sz cap : Nat} {a : Option Addr} {css : List (List Value)} {ls : List (List α)} {K : Hp} {H H1 H2 H3 : List HProp}
theorem ldE {t i k : Nat} {cl : List Value} {v : Value} {c : Value → Prop} (hr : Rem (OwnE enc e' e sz a cap css ls) H H1) (ht : tyShape P t = some none) (hx : css[i]? = some cl) (hv : cl[0]? = some v) (hk : k = i * 1 + 0) (h : c v) :
    RStepS P (.load t (eptr a k)) K H c := by
  obtain ⟨u, h1, h2⟩ := (ldA (P := P) (K := K) (H := OwnA a e' 1 cap css :: (els enc e sz css ls ++ H1)) (o := 0) .here ht hx hv hk h).out
  exact ⟨u, fun Γ w s => h1 Γ w ((s.rem hr).conv fun _ y => sep_flat y), h2⟩
theorem Sat.openE' {i : Nat} {x : List α} {ai : Option Addr} {ci : Nat} {Γ : World} {w : World} (hr : Rem (OwnE enc e' e sz a cap css ls) H H1) (hl : LR hdR K css ls) (hx : ls[i]? = some x) (hc : css[i]? = some [.slice ai x.length ci]) (s : Sat Γ K H w) :
    (0 < x.length → Has ai) ∧ Sat Γ K (OwnL enc ai e sz ci x :: OwnA a e' 1 cap css :: OwnX enc e sz css ls i :: H1) w := by
  obtain ⟨aj, cj, h1, h2, h3⟩ := s.openE hr hl hx
  rw [hc] at h1
  simp only [Option.some.injEq, List.cons.injEq, Value.slice.injEq, and_true, true_and] at h1
  obtain ⟨rfl, rfl⟩ := h1
  exact ⟨h2, h3⟩
variable {ops : Array Oper} {env : List Value} {Q : KP} {m : M} {c : VP} {root : Code} {n : Nat} {p : List Nat} {QC : Exit → KP}
/-- append onto an element: it is taken out of the list. -/
theorem apEE {t tx ty k i : Nat} {xv : Value} {x new : List α} {ai : Option Addr} {ci : Nat} {cs : Array Bool} (hr : Rem (OwnE enc e' e sz a cap css ls) H H1) (hl : LR hdR K css ls) (hx : ls[i]? = some x) (hc : css[i]? = some [.slice ai x.length ci]) (hn : k = x.length)
    (T : ElT P t e sz) (hs : SrcOK P K H1 sz tx xv (new.map enc)) (hlim : x.length + new.length ≤ lim)
    (h : ∀ a' cap', (0 < (x ++ new).length → Has a') → c (.slice a' (x ++ new).length cap') K (OwnL enc a' e sz cap' (x ++ new) :: OwnA a e' 1 cap css :: OwnX enc e sz css ls i :: H1)) :
    WStep P (.builtin .append #[t, tx] ty cs [.slice ai k ci, xv]) K H c := by
  refine WStep.conv fun Γ w s => ?_
  obtain ⟨_, s2⟩ := s.openE' hr hl hx hc
  exact ⟨K, _, s2, apE hn .here T ⟨fun Γ w s => hs.src Γ w s.drop.drop, hs.len, hs.one⟩ hlim h⟩
/-- A slice of one's own becomes an element: stored, and put into the list. -/
theorem stE {t i k : Nat} {x : List α} {ai : Option Addr} {ci nx : Nat} {y : List α} (r1 : Rem (OwnL enc ai e sz ci x) H H1) (r2 : Rem (OwnA a e' 1 cap css) H1 H2) (r3 : Rem (OwnX enc e sz css ls i) H2 H3) (hl : LR hdR K css ls) (hx : ls[i]? = some y) (hn : nx = x.length)
    (ht : tySize P t = some 1) (hk : k = i * 1 + 0)
    (h : c undef K (OwnE enc e' e sz a cap (css.set i [.slice ai x.length ci]) (ls.set i x) :: H3)) : WStep P (.store t (eptr a k) (.slice ai nx ci)) K H c := by
  subst hn
  obtain ⟨cl, hc, _⟩ := hl.get hx
  have hi : i < ls.length := (List.getElem?_eq_some_iff.1 hx).1
  have hcl := hl.len
  have hm := stA0 (P := P) (K := K) (H := OwnA a e' 1 cap css :: OwnL enc ai e sz ci x :: OwnX enc e sz css ls i :: H3) (c := fun v K' H' => v = undef ∧ K' = K ∧ H' = OwnA a e' 1 cap (css.set i [.slice ai x.length ci]) :: OwnL enc ai e sz ci x :: OwnX enc e sz css ls i :: H3)
    (t := t) (k := k) (v := .slice ai x.length ci) [.slice ai x.length ci] .here ht hc (by omega) (by rw [cellsL_eq]; exact ⟨rfl, rfl, rfl, rfl⟩) ⟨rfl, rfl, rfl⟩
  refine ⟨fun Γ w s => ?_⟩
  have s1 : Sat Γ K (OwnA a e' 1 cap css :: OwnL enc ai e sz ci x :: OwnX enc e sz css ls i :: H3) w := s.conv fun h y => by
    have y1 := r1.sep y
    have y2 := sep_tl (fun _ => r2.sep) y1
    have y3 := sep_tl (fun _ => sep_tl fun _ => r3.sep) y2
    exact (Rem.there (A := OwnA a e' 1 cap css) Rem.here).sep y3
  obtain ⟨r, w', v, K', H', g1, g2, g3, rfl, rfl, rfl⟩ := hm.out Γ w s1
  refine ⟨r, w', _, _, _, g1, g2, ?_, h⟩
  exact g3.closeE (.there .here) .here .here hcl hi rfl rfl
theorem sep_frame {B C F : HProp} {M : List HProp} {h : Hp} : SepL (B :: C :: (M ++ [F])) h ↔ SepL (M ++ [SepH [B, C, F]]) h := by
  constructor
  · intro x
    have x1 : SepL (B :: (M ++ [C, F])) h := sep_tl (fun _ y => (sep_move M [F] C _).2 y) x
    exact SepL.glue ((sep_move M [C, F] B h).2 x1)
  · intro x
    have x1 : SepL (M ++ [B, C, F]) h := SepL.unglue x
    have x2 := (sep_move M [C, F] B h).1 x1
    exact sep_tl (fun _ y => (sep_move M [F] C _).1 y) x2
/-- An element is lent. -/
theorem Fn.lendE {f : FuncId} {args : List Value} {M : List HProp} {R : VP} {i : Nat} {x : List α} {ai : Option Addr} {ci : Nat} (hcl : ∀ a w, (callFunc f a).run P w = .ok (.enter f a) w) (hl : LR hdR K css ls) (hx : ls[i]? = some x) (hc : css[i]? = some [.slice ai x.length ci])
    (h : ∀ K', K.Le K' → RdC enc K' ai ci sz x → Fn P f args K' M R) (hK : ∀ v K1 K2 H', R v K1 H' → R v K2 H') :
    Fn P f args K (OwnE enc e' e sz a cap css ls :: M) (fun v K' H' => ∃ H0, H' = OwnE enc e' e sz a cap css ls :: H0 ∧ R v K' H0) := by
  refine ⟨hcl, fun F Γ w s => ?_⟩
  obtain ⟨_, s2⟩ := Sat.openE' (H := (OwnE enc e' e sz a cap css ls :: M) ++ [F]) .here hl hx hc s
  have hb := Fn.lend (e := e) hcl h hK
  have s3 : Sat Γ K ((OwnL enc ai e sz ci x :: M) ++ [SepH [OwnA a e' 1 cap css, OwnX enc e sz css ls i, F]]) w := s2.conv fun h y => sep_tl (fun _ => sep_frame.1) y
  refine (hb.2 _ Γ w s3).mono ?_
  rintro e1 w' ⟨v, K', H', rfl, g1, ⟨H0, rfl, g2⟩, g3⟩
  refine ⟨v, K', _, rfl, g1, ⟨H0, rfl, g2⟩, ?_⟩
  have s4 : Sat Γ K' (OwnL enc ai e sz ci x :: OwnA a e' 1 cap css :: OwnX enc e sz css ls i :: (H0 ++ [F])) w' := g3.conv fun h y => sep_tl (fun _ => sep_frame.2) y
  have hi : i < ls.length := (List.getElem?_eq_some_iff.1 hx).1
  exact s4.closeE .here .here .here hl.len hi (set_self hc) (set_self hx)
/-- What was appended is let go: the element is put back. -/
theorem Sat.unap {x new : List α} {ai : Option Addr} {ci : Nat} {Γ : World} {w : World} (s : Sat Γ K (OwnL enc ai e sz ci (x ++ new) :: H) w) : Sat Γ K (OwnL enc ai e sz ci x :: H) w := by
  have := s.ownTake x.length
  rw [List.map_append, ← List.length_map (f := enc), List.take_left] at this
  exact this
end
end Go.SL
set_option linter.unusedVariables false
set_option linter.unusedSimpArgs false
namespace Go.SL
open Go
section
variable {P : Program} {α : Type} {enc : α → List Value} {e e' sz cap : Nat} {a : Option Addr} {css : List (List Value)} {ls : List (List α)} {K : Hp} {H H1 H2 H3 : List HProp}
def OwnS (enc : α → List Value) (e sz : Nat) (css : List (List Value)) (ls : List (List α)) : HProp := SepH (els enc e sz css ls)
theorem Sat.fzEo {Γ : World} {w : World} (hr : Rem (OwnE enc e' e sz a cap css ls) H H1) (hl : LR hdR K css ls) (s : Sat Γ K H w) : ∃ K', K.Le K' ∧ LiC hdR K' a cap 1 ls ∧ RdS K' a 1 css ∧ Sat Γ K' (OwnS enc e sz css ls :: H1) w := by
  have s1 : Sat Γ K (OwnA a e' 1 cap css :: OwnS enc e sz css ls :: H1) w := (s.rem hr).conv fun h y => sep_tl (fun _ => sep_fold) (sep_flat y)
  have hle := s1.ownLen
  obtain ⟨K', h1, h2, h3⟩ := s1.ownFreeze
  exact ⟨K', h1, ⟨LiR.mk' h2 (hl.mono hdR_ok h1), by rw [← hl.len]; exact hle⟩, h2, h3⟩
theorem Sat.openS {Γ : World} {w : World} {i : Nat} {x : List α} {ai : Option Addr} {ci : Nat} (hr : Rem (OwnS enc e sz css ls) H H1) (hx : ls[i]? = some x) (hc : css[i]? = some [.slice ai x.length ci]) (s : Sat Γ K H w) :
    Sat Γ K (OwnL enc ai e sz ci x :: OwnX enc e sz css ls i :: H1) w := (s.rem hr).conv fun h y => by
  have r : Rem (OwnL enc ai e sz ci x) (els enc e sz css ls ++ H1) ((els enc e sz css ls).eraseIdx i ++ H1) := (rem_at (els_get (enc := enc) (e := e) (sz := sz) hc hx)).app H1
  exact sep_tl (fun _ => sep_fold) (r.sep (sep_flat y))
theorem Sat.closeS {Γ : World} {w : World} {i : Nat} {x : List α} {ai : Option Addr} {ci : Nat} (r1 : Rem (OwnL enc ai e sz ci x) H H1) (r2 : Rem (OwnX enc e sz css ls i) H1 H2) (hx : ls[i]? = some x) (hc : css[i]? = some [.slice ai x.length ci]) (s : Sat Γ K H w) :
    Sat Γ K (OwnS enc e sz css ls :: H2) w := s.conv fun h y => by
  have y1 := sep_tl (fun _ => r2.sep) (r1.sep y)
  have y2 := sep_tl (fun _ => sep_flat) y1
  have r : Rem (OwnL enc ai e sz ci x) (els enc e sz css ls ++ H2) ((els enc e sz css ls).eraseIdx i ++ H2) := (rem_at (els_get (enc := enc) (e := e) (sz := sz) hc hx)).app H2
  exact sep_fold (r.sep' y2)
variable {ops : Array Oper} {env : List Value} {Q : KP} {m : M} {c : VP} {root : Code} {n : Nat} {p : List Nat} {QC : Exit → KP}
theorem fzEoC (hr : Rem (OwnE enc e' e sz a cap css ls) H H1) (hl : LR hdR K css ls) (h : ∀ K', K.Le K' → LiC hdR K' a cap 1 ls → RdS K' a 1 css → CStep P root n p env K' (OwnS enc e sz css ls :: H1) QC) : CStep P root n p env K H QC :=
  CStep.conv fun Γ w s => let ⟨K', h1, h2, h3, h4⟩ := s.fzEo hr hl; ⟨K', _, h4, h K' h1 h2 h3⟩
/-- append onto an element that stays what it is; the list itself is read alone. -/
theorem apEOS {t tx ty k i : Nat} {xv : Value} {x new : List α} {ai : Option Addr} {ci : Nat} {cs : Array Bool} (hr : Rem (OwnS enc e sz css ls) H H1) (hx : ls[i]? = some x) (hc : css[i]? = some [.slice ai x.length ci]) (hn : k = x.length)
    (T : ElT P t e sz) (hs : SrcOK P K H1 sz tx xv (new.map enc)) (hlim : x.length + new.length ≤ lim)
    (h1 : c (.slice ai (x ++ new).length ci) K (OwnL enc ai e sz ci (x ++ new) :: OwnX enc e sz css ls i :: H1))
    (h2 : ∀ a' cap', c (.slice a' (x ++ new).length cap') K (OwnL enc a' e sz cap' (x ++ new) :: OwnL enc ai e sz ci x :: OwnX enc e sz css ls i :: H1)) :
    WStep P (.builtin .append #[t, tx] ty cs [.slice ai k ci, xv]) K H c := by
  refine WStep.conv fun Γ w s => ?_
  exact ⟨K, _, s.openS hr hx hc, apEO hn .here T ⟨fun Γ w s => hs.src Γ w s.drop, hs.len, hs.one⟩ hlim h1 h2⟩
theorem clS1C {i : Nat} {x new : List α} {ai : Option Addr} {ci : Nat} (r1 : Rem (OwnL enc ai e sz ci (x ++ new)) H H1) (r2 : Rem (OwnX enc e sz css ls i) H1 H2) (hx : ls[i]? = some x) (hc : css[i]? = some [.slice ai x.length ci])
    (h : CStep P root n p env K (OwnS enc e sz css ls :: H2) QC) : CStep P root n p env K H QC :=
  CStep.conv fun Γ w s => ⟨K, _, Sat.closeS (H := OwnL enc ai e sz ci x :: H1) .here r2 hx hc (s.rem r1).unap, h⟩
theorem clS2C {i : Nat} {x : List α} {ai : Option Addr} {ci : Nat} (r1 : Rem (OwnL enc ai e sz ci x) H H1) (r2 : Rem (OwnX enc e sz css ls i) H1 H2) (hx : ls[i]? = some x) (hc : css[i]? = some [.slice ai x.length ci])
    (h : CStep P root n p env K (OwnS enc e sz css ls :: H2) QC) : CStep P root n p env K H QC :=
  CStep.conv fun Γ w s => ⟨K, _, s.closeS r1 r2 hx hc, h⟩
end
end Go.SL
set_option linter.unusedVariables false
set_option linter.unusedSimpArgs false
namespace Go.SL
open Go
section
variable {P : Program} {K : Hp} {H H' : List HProp} {c : VP} {t e sz : Nat} {α : Type} {enc : α → List Value}
/-- A block of n zero elements. -/
def MadeB (b e : Nat) (z : Value) (k : Nat) : HProp := Blk b (.cells (madeCells z.cells k) e)
theorem mk_sliceA {z : Value} {n : Int} (T : ElT P t e sz) (hz : tyZeroV P e = some z) (hn : 0 ≤ n ∧ n ≤ (lim : Int))
    (h : ∀ b, c (.slice (some ⟨b, 0, none⟩) n.toNat n.toNat) K (MadeB b e z (n.toNat * sz) :: H)) : AStep P (.makeSlice t (.int .i64 n) (.int .i64 n)) K H c := by
  obtain ⟨ht, hsz, ⟨z', hz', hzs⟩, hpos, ⟨bytes, hby, hb2⟩⟩ := T
  obtain rfl : z = z' := by rw [hz] at hz'; exact Option.some.inj hz'
  obtain ⟨i, hi, hiz⟩ : ∃ i, P.info? e = some i ∧ i.zero = some z := by
    unfold tyZeroV at hz
    cases h : P.info? e with
    | none => simp [h] at hz
    | some i =>
      refine ⟨i, rfl, ?_⟩
      simp only [h] at hz
      cases h0 : i.zero with
      | none => simp [h0] at hz
      | some z' => simp [h0] at hz; rw [hz]
  have his : i.size = sz := by unfold tySize at hsz; simpa [hi] using hsz
  have hib : i.bytes = bytes := by unfold tyBytes at hby; simpa [hi] using hby
  have hl : (lim : Int) = 68719476736 := rfl
  refine ⟨fun b => .slice (some ⟨b, 0, none⟩) n.toNat n.toNat, .cells (madeCells z.cells (n.toNat * sz)) e, fun w => ?_, h⟩
  have hrun := run_make (P := P) w t e i z ht hi hiz .i64 .i64 n n hn.1 (Int.le_refl _) (by rw [hib]; have : (bytes : Int) * n ≤ 2048 * 68719476736 := Int.mul_le_mul (by omega) (by omega) hn.1 (by omega); omega) (by omega)
  simp [M.sem, hrun, his]
theorem Sat.made {Γ : World} {w : World} {b k : Nat} {z : Value} (x0 : α) (T : ElT P t e sz) (hz : tyZeroV P e = some z) (hx : z.cells.toList = enc x0) (ho : allOne (enc x0) = true) (hk : k ≤ lim) (s : Sat Γ K (MadeB b e z (k * sz) :: H) w) :
    Sat Γ K (OwnL enc (some ⟨b, 0, none⟩) e sz k (List.replicate k x0) :: H) w := by
  obtain ⟨ht, hsz, ⟨z', hz', hzs⟩, hpos, ⟨bytes, hby, hb2⟩⟩ := T
  obtain rfl : z = z' := by rw [hz] at hz'; exact Option.some.inj hz'
  have hcs : (enc x0).length = sz := by rw [← hx]; simpa using hzs
  have hml : maxLen = 9223372036854775807 := by decide
  have hmc : (madeCells z.cells (k * sz)).toList = ((List.replicate k x0).map enc).flatten := by
    have := made_flat z.cells.toList (by rw [hx, hcs]; exact hpos) k
    rw [hx, hcs] at this
    rw [List.map_replicate, ← this]
    congr 2
    rw [← hx]
  refine Sat.mkOwn (cur := madeCells z.cells (k * sz)) s (fun l hl => ?_) (fun l hl => ?_) ?_ (by simp) (by simp only [lim] at hk; rw [hml]; omega) (fun j v hj => ?_)
  · obtain ⟨x, hx', rfl⟩ := List.mem_map.1 hl
    rw [List.eq_of_mem_replicate hx']; exact hcs
  · obtain ⟨x, hx', rfl⟩ := List.mem_map.1 hl
    rw [List.eq_of_mem_replicate hx']; exact allOne_spec ho
  · simp [madeCells]
  · rw [← Array.getElem?_toList, hmc]; exact hj
variable {ops : Array Oper} {env : List Value} {Q : KP} {m : M} {root : Code} {n : Nat} {p : List Nat} {QC : Exit → KP}
theorem madeW {b k : Nat} {z : Value} (x0 : α) (T : ElT P t e sz) (hz : tyZeroV P e = some z) (hx : z.cells.toList = enc x0) (ho : allOne (enc x0) = true) (hk : k ≤ lim) (hr : Rem (MadeB b e z (k * sz)) H H')
    (h : WStep P m K (OwnL enc (some ⟨b, 0, none⟩) e sz k (List.replicate k x0) :: H') c) : WStep P m K H c := WStep.conv fun Γ w s => ⟨K, _, (s.rem hr).made x0 T hz hx ho hk, h⟩
end
theorem lim_n {n : Int} (h : 0 ≤ n ∧ n ≤ (lim : Int)) : n.toNat ≤ lim := by omega
end Go.SL
set_option linter.unusedVariables false
set_option linter.unusedSimpArgs false
namespace Go.SL
open Go
end Go.SL
