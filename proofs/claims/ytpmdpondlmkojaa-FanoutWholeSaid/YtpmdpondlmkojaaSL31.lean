/- append onto a slice of one's own, whose old part is used again: both are read alone from now on. -/
import Derived.Test.YtpmdpondlmkojaaSL30
set_option linter.unusedVariables false
set_option linter.unusedSimpArgs false
namespace Go.SL
open Go
section
variable {P : Program}
theorem RdS.front {K : Hp} {a : Option Addr} {sz : Nat} {css news : List (List Value)} (h : RdS K a sz (css ++ news)) : RdS K a sz css := by
  refine ⟨fun m hm => h.len m (by simp [hm]), fun m hm => h.one m (by simp [hm]), fun hne => ?_⟩
  obtain ⟨b, off, cs, T, fz, e, k, hc⟩ := h.cells (by simp [hne])
  refine ⟨b, off, cs, T, fz, e, k, fun i v hv => hc i v ?_⟩
  rw [List.flatten_append, List.getElem?_append_left (List.getElem?_eq_some_iff.1 hv).1]; exact hv
theorem append_keep {Γ : World} {K : Hp} {t tx e ty sz bytes cap : Nat} {z : Value} {a : Option Addr} {x : Value} {css news : List (List Value)} {H : List HProp} {w : World} (s : Sat Γ K (OwnA a e sz cap css :: H) w)
    (ht : P.underlying t = some (.slice e)) (hsz : tySize P e = some sz) (hz : tyZeroV P e = some z) (hzs : z.cells.size = sz) (hpos : 0 < sz) (hby : tyBytes P e = some bytes)
    (hs : SrcOK P K H sz tx x news) (h63 : css.length + news.length ≤ maxLen) (hb : (css.length + news.length) * bytes ≤ 140737488355328) :
    ∃ a' cap' w' K', (Builtin.append_ #[t, tx] ty #[.slice a css.length cap, x]).run P w = .ok (.slice a' (css.length + news.length) cap') w' ∧ K.Le K' ∧ Sat Γ K' H w' ∧ RdS K' a' sz (css ++ news) ∧ css.length + news.length ≤ cap' ∧ RdS K' a sz css ∧ css.length ≤ cap := by
  have hcap : css.length ≤ cap := s.ownLen
  obtain ⟨hl, ho, hA⟩ := s.own
  obtain ⟨i, hi, hisz⟩ : ∃ i, P.info? e = some i ∧ i.size = sz := by
    unfold tySize at hsz
    cases h : P.info? e with
    | none => simp [h] at hsz
    | some i => simp [h] at hsz; exact ⟨i, rfl, hsz⟩
  have hiz : i.zero = some z := by
    unfold tyZeroV at hz
    simp only [hi, Option.map_some] at hz
    cases h : i.zero with
    | none => simp [h] at hz
    | some z' => simp [h] at hz; rw [hz]
  have hib : i.bytes = bytes := by unfold tyBytes at hby; simpa [hi] using hby
  have hsrc := hs.src Γ w (s.drop)
  have hml : maxLen = 9223372036854775807 := by decide
  have hlall : ∀ l ∈ css ++ news, l.length = sz := fun l h => by rcases List.mem_append.1 h with h | h; exact hl l h; exact hs.len l h
  have hoall : ∀ l ∈ css ++ news, ∀ v ∈ l, v.oneCell' = true := fun l h => by rcases List.mem_append.1 h with h | h; exact ho l h; exact hs.one l h
  have hfl := flat_len hl
  have hfn := flat_len hs.len
  have grow : ∀ (base : Option Addr) (H2 : List HProp) (H0 : Sat Γ K H2 w) (hold : (Builtin.firstCells i.size css.length (.slice base css.length cap)).run P w.drew = .ok css.flatten.toArray w.drew) (hg : cap < css.length + news.length),
      ∃ a' cap' w', (Builtin.append_ #[t, tx] ty #[.slice base css.length cap, x]).run P w = .ok (.slice a' (css.length + news.length) cap') w' ∧ Sat Γ K (OwnA a' e sz cap' (css ++ news) :: H2) w' := by
    intro base H2 H0 hold hg
    have hfit := growslice_fits (bytes := i.bytes) hg (by rw [hib]; exact hb)
    have hr := run_append_grow_src (P := P) w t tx ty e i z ht hi hiz base css.length cap css.flatten hold x news.length news.flatten (by rw [hisz]; exact hsrc) hg (by omega) hfit
    have hge := grownCap_ge w (css.length + news.length) cap e
    have hcm := grownCap_le_maxLen w (css.length + news.length) cap e h63
    refine ⟨_, _, _, hr, ?_⟩
    refine (Sat.push (w := w.drew) H0.drew).mkOwn hlall hoall ?_ (by simpa using hge) hcm ?_
    · simp only [Array.size_append, List.size_toArray, List.length_append, size_zeroCells, hzs, hfl, hfn, ← Nat.add_mul]
      exact Nat.le_of_eq (by congr 1; omega)
    · intro j v hj
      have hlt : j < (css ++ news).flatten.length := (List.getElem?_eq_some_iff.1 hj).1
      rw [Array.getElem?_append_left (by simpa using hlt)]
      simpa using hj
  rcases hA with ⟨rfl, rfl, rfl, s0⟩ | ⟨b, cur, fz, hfz, rfl, k1, k2, k3, k4, s0⟩
  · by_cases hn : news = []
    · subst hn
      refine ⟨none, 0, w, K, ?_, .refl _, s0, by simpa using RdS.nil, by simp, RdS.nil, by simp⟩
      have hroom : (0 : Nat) + 0 ≤ 0 := by omega
      have hlen := hsrc.len
      have hcl := hsrc.cells
      rcases hsrc.kind with ⟨e', hk⟩ | hk
      · simp only [List.length_nil, List.flatten_nil] at hlen hcl ⊢
        simp [Builtin.append_, run_underlying ht, run_underlying hk, run_sizeOf' hsz, hlen w, hcl]
      · simp only [List.length_nil, List.flatten_nil] at hlen hcl ⊢
        simp [Builtin.append_, run_underlying ht, run_underlying hk, run_sizeOf' hsz, hlen w, hcl]
    · have hpos' : 0 < news.length := List.length_pos_iff.2 hn
      obtain ⟨a', cap', w', h1, h2⟩ := grow none H s0 (by simp [Builtin.firstCells]) (by simpa using hpos')
      have hc' := h2.ownLen
      obtain ⟨K', g1, g2, g3⟩ := h2.ownFreeze
      exact ⟨a', cap', w', K', h1, g1, g3, g2, by simpa using hc', RdS.nil, by simp⟩
  · by_cases hroom : css.length + news.length ≤ cap
    · obtain ⟨w', hst, hs'⟩ := Sat.storeCellsF (P := P) (b := b) (T := e) (fz := fz) news.flatten (css.length * sz) 0 cur.toList w (by simpa using s0) (by
        simp only [Nat.add_zero, hfn, Array.length_toList, ← Nat.add_mul]
        exact Nat.le_trans (Nat.mul_le_mul_right _ hroom) k1) (fun v hv => by
          obtain ⟨l, hl', hv⟩ := List.mem_flatten.1 hv
          exact hs.one l hl' v hv) (by simpa using hfz)
      have hle : css.length * sz + 0 + news.flatten.length ≤ cur.toList.length := by
        simp only [Nat.add_zero, hfn, Array.length_toList, ← Nat.add_mul]
        exact Nat.le_trans (Nat.mul_le_mul_right _ hroom) k1
      have hown : Sat Γ K (OwnA (some ⟨b, 0, none⟩) e sz cap (css ++ news) :: H) w' := by
        refine hs'.mkOwnF ?_ hlall hoall ?_ (by simpa using hroom) k3 ?_
        · rcases hfz with h | h
          · exact .inl h
          · rcases splice_len (css.length * sz + 0) news.flatten cur.toList with h' | h'
            · right; rw [show (splice (css.length * sz + 0) news.flatten cur.toList).toArray.size = cur.toList.length from by simpa using h']; simpa using h
            · omega
        · rcases splice_len (css.length * sz + 0) news.flatten cur.toList with h | h
          · rw [show (splice (css.length * sz + 0) news.flatten cur.toList).toArray.size = cur.size from by simpa using h]; exact k1
          · omega
        · intro j v hj
          rw [List.getElem?_toArray, splice_get _ _ _ _ hle]
          simp only [List.flatten_append] at hj
          rw [List.getElem?_append, hfl] at hj
          simp only [Nat.add_zero]
          split at hj
          · rename_i h1; rw [if_pos h1]; simpa using k4 j v (by rw [hj])
          · rename_i h1
            rw [if_neg h1, if_pos (by have := (List.getElem?_eq_some_iff.1 hj).1; omega)]
            exact hj
      obtain ⟨K', g1, g2, g3⟩ := hown.ownFreeze
      refine ⟨some ⟨b, 0, none⟩, cap, w', K', ?_, g1, g3, g2, hroom, g2.front, hcap⟩
      have hlen := hsrc.len
      have hcl := hsrc.cells
      rcases hsrc.kind with ⟨e', hk⟩ | hk <;>
        simp [Builtin.append_, run_underlying ht, run_underlying hk, run_sizeOf' hsz, hlen w, hroom, hcl, addr_add, hst]
    · obtain ⟨a', cap', w', h1, h2⟩ := grow (some ⟨b, 0, none⟩) _ s (by
        have : ∀ j u, css.flatten[j]? = some u → w.drew.cell? ((⟨b, 0, none⟩ : Addr).add j) = some u := fun j u hu => by
          have h1 := s0.blk
          have h2 : w.drew.heap[b]? = some (.cells cur e fz) := h1
          rw [addr_add]
          simp only [World.cell?, h2]
          simpa using k4 j u hu
        exact run_firstCells_some w.drew i.size css.length ⟨b, 0, none⟩ css.length cap css.flatten (by rw [hfl, hisz]) this) (by omega)
      have hc' := h2.ownLen
      obtain ⟨K1, g1, g2, g3⟩ := h2.ownFreeze
      obtain ⟨K2, q1, q2, q3⟩ := g3.ownFreeze
      exact ⟨a', cap', w', K2, h1, g1.trans q1, q3, g2.mono q1, by simpa using hc', q2, hcap⟩
variable {K : Hp} {H H' : List HProp} {α : Type} {enc : α → List Value} {a : Option Addr} {t tx e ty sz cap : Nat} {l new : List α} {cs : Array Bool} {c : VP}
theorem apEK {x : Value} {n : Nat} (hn : n = l.length) (hr : Rem (OwnL enc a e sz cap l) H H') (T : ElT P t e sz) (hs : SrcOK P K H' sz tx x (new.map enc)) (hl : l.length + new.length ≤ lim)
    (h : ∀ a' cap' K', K.Le K' → RdC enc K' a' cap' sz (l ++ new) → RdC enc K' a cap sz l → c (.slice a' (l ++ new).length cap') K' H') :
    WStep P (.builtin .append #[t, tx] ty cs [.slice a n cap, x]) K H c := by
  subst hn
  obtain ⟨z, hz, hzs⟩ := T.hz
  obtain ⟨by_, hby, hbb⟩ := T.hby
  refine ⟨fun Γ w s => ?_⟩
  have hlm : (l.map enc).length = l.length := List.length_map _
  have hlm2 : (new.map enc).length = new.length := List.length_map _
  obtain ⟨a', cap', w', K', h1, h2, h3, h4, h5, h6, h7⟩ := append_keep (ty := ty) (s.rem hr) T.ht T.hsz hz hzs T.hpos hby hs (by simp only [maxLen, List.length_map, lim] at hl ⊢; omega) (limb (by simpa using hl) hbb)
  rw [hlm, hlm2] at h1 h5
  rw [hlm] at h7
  have := h a' cap' K' h2 ⟨by show RdS K' a' sz (List.map enc (l ++ new)); rw [List.map_append]; exact h4, by rw [List.length_append]; exact h5⟩ ⟨h6, h7⟩
  rw [List.length_append] at this
  exact ⟨_, w', _, K', _, by simp [M.sem, Go.builtin, h1], .inl rfl, h3, this⟩
end
end Go.SL
namespace Go.SL
open Go
section
variable {P : Program} {K : Hp} {H H' : List HProp} {α : Type} {R : Rp α} {e sz b len : Nat} {l : List α} {cl : List Value} {css : List (List Value)}
/-- A literal whose elements hold slices becomes a slice of one's own. -/
theorem Sat.litA {Γ : World} {w : World} (s : Sat Γ K (Cells b e cl :: H) w) (hR : RpOK sz R) (hc : css.flatten = cl) (hlr : LR R K css l) (ho : allOne cl = true) (hn : css.length = len) (hlen : len ≤ lim) :
    Sat Γ K (OwnA (some ⟨b, 0, none⟩) e sz len css :: H) w := by
  subst hn
  have hone := allOne_spec ho
  have hl' : ∀ m ∈ css, m.length = sz := fun m hm => by
    obtain ⟨i, hi⟩ := List.getElem?_of_mem hm
    have hil : i < l.length := by rw [← hlr.len]; exact (List.getElem?_eq_some_iff.1 hi).1
    exact hR.len (hlr.all i m _ hi (List.getElem?_eq_getElem hil))
  refine Sat.mkOwn (cur := cl.toArray) s hl' (fun m hm v hv => hone v (by rw [← hc]; exact List.mem_flatten.2 ⟨m, hm, hv⟩)) ?_ (by simp) (by simp only [lim] at hlen; simp only [maxLen]; omega) (fun j v hv => by rw [hc] at hv; simpa using hv)
  rw [← hc]
  have := flat_len hl'
  exact Nat.le_of_eq (by simpa using this.symm)
theorem litAC {root : Code} {n : Nat} {p : List Nat} {env : List Value} {Q : Exit → KP} (hR : RpOK sz R) (hr : Rem (Cells b e cl) H H') (hc : css.flatten = cl) (hlr : LR R K css l) (ho : allOne cl = true) (hn : css.length = len) (hlen : len ≤ lim)
    (h : CStep P root n p env K (OwnA (some ⟨b, 0, none⟩) e sz len css :: H') Q) : CStep P root n p env K H Q :=
  CStep.conv fun Γ w s => ⟨K, _, (s.rem hr).litA hR hc hlr ho hn hlen, h⟩
theorem litAD {ops : Array Oper} {env : List Value} {Q : KP} (hR : RpOK sz R) (hr : Rem (Cells b e cl) H H') (hc : css.flatten = cl) (hlr : LR R K css l) (ho : allOne cl = true) (hn : css.length = len) (hlen : len ≤ lim)
    (h : DStep P ops env K (OwnA (some ⟨b, 0, none⟩) e sz len css :: H') Q) : DStep P ops env K H Q :=
  DStep.conv fun Γ w s => ⟨K, _, (s.rem hr).litA hR hc hlr ho hn hlen, h⟩
theorem litAW {m : M} {c : VP} (hR : RpOK sz R) (hr : Rem (Cells b e cl) H H') (hc : css.flatten = cl) (hlr : LR R K css l) (ho : allOne cl = true) (hn : css.length = len) (hlen : len ≤ lim)
    (h : WStep P m K (OwnA (some ⟨b, 0, none⟩) e sz len css :: H') c) : WStep P m K H c :=
  WStep.conv fun Γ w s => ⟨K, _, (s.rem hr).litA hR hc hlr ho hn hlen, h⟩
theorem litAF {f : FuncId} {args : List Value} {c : VP} (hf : ∀ a w, (callFunc f a).run P w = .ok (.enter f a) w) (hR : RpOK sz R) (hr : Rem (Cells b e cl) H H') (hc : css.flatten = cl) (hlr : LR R K css l) (ho : allOne cl = true) (hn : css.length = len) (hlen : len ≤ lim)
    (h : CallStep P f args K (OwnA (some ⟨b, 0, none⟩) e sz len css :: H') c) : CallStep P f args K H c :=
  CallStep.conv hf fun Γ w s => ⟨K, _, (s.rem hr).litA hR hc hlr ho hn hlen, h⟩
end
end Go.SL
namespace Go.SL
open Go
theorem r12 {A B0 B1 B2 B3 B4 B5 B6 B7 B8 B9 B10 B11 : HProp} {L : List HProp} : Rem A (B0 :: B1 :: B2 :: B3 :: B4 :: B5 :: B6 :: B7 :: B8 :: B9 :: B10 :: B11 :: A :: L) (B0 :: B1 :: B2 :: B3 :: B4 :: B5 :: B6 :: B7 :: B8 :: B9 :: B10 :: B11 :: L) := .there r11
theorem r13 {A B0 B1 B2 B3 B4 B5 B6 B7 B8 B9 B10 B11 B12 : HProp} {L : List HProp} : Rem A (B0 :: B1 :: B2 :: B3 :: B4 :: B5 :: B6 :: B7 :: B8 :: B9 :: B10 :: B11 :: B12 :: A :: L) (B0 :: B1 :: B2 :: B3 :: B4 :: B5 :: B6 :: B7 :: B8 :: B9 :: B10 :: B11 :: B12 :: L) := .there r12
theorem r14 {A B0 B1 B2 B3 B4 B5 B6 B7 B8 B9 B10 B11 B12 B13 : HProp} {L : List HProp} : Rem A (B0 :: B1 :: B2 :: B3 :: B4 :: B5 :: B6 :: B7 :: B8 :: B9 :: B10 :: B11 :: B12 :: B13 :: A :: L) (B0 :: B1 :: B2 :: B3 :: B4 :: B5 :: B6 :: B7 :: B8 :: B9 :: B10 :: B11 :: B12 :: B13 :: L) := .there r13
theorem r15 {A B0 B1 B2 B3 B4 B5 B6 B7 B8 B9 B10 B11 B12 B13 B14 : HProp} {L : List HProp} : Rem A (B0 :: B1 :: B2 :: B3 :: B4 :: B5 :: B6 :: B7 :: B8 :: B9 :: B10 :: B11 :: B12 :: B13 :: B14 :: A :: L) (B0 :: B1 :: B2 :: B3 :: B4 :: B5 :: B6 :: B7 :: B8 :: B9 :: B10 :: B11 :: B12 :: B13 :: B14 :: L) := .there r14
theorem r16 {A B0 B1 B2 B3 B4 B5 B6 B7 B8 B9 B10 B11 B12 B13 B14 B15 : HProp} {L : List HProp} : Rem A (B0 :: B1 :: B2 :: B3 :: B4 :: B5 :: B6 :: B7 :: B8 :: B9 :: B10 :: B11 :: B12 :: B13 :: B14 :: B15 :: A :: L) (B0 :: B1 :: B2 :: B3 :: B4 :: B5 :: B6 :: B7 :: B8 :: B9 :: B10 :: B11 :: B12 :: B13 :: B14 :: B15 :: L) := .there r15
theorem r17 {A B0 B1 B2 B3 B4 B5 B6 B7 B8 B9 B10 B11 B12 B13 B14 B15 B16 : HProp} {L : List HProp} : Rem A (B0 :: B1 :: B2 :: B3 :: B4 :: B5 :: B6 :: B7 :: B8 :: B9 :: B10 :: B11 :: B12 :: B13 :: B14 :: B15 :: B16 :: A :: L) (B0 :: B1 :: B2 :: B3 :: B4 :: B5 :: B6 :: B7 :: B8 :: B9 :: B10 :: B11 :: B12 :: B13 :: B14 :: B15 :: B16 :: L) := .there r16
theorem r18 {A B0 B1 B2 B3 B4 B5 B6 B7 B8 B9 B10 B11 B12 B13 B14 B15 B16 B17 : HProp} {L : List HProp} : Rem A (B0 :: B1 :: B2 :: B3 :: B4 :: B5 :: B6 :: B7 :: B8 :: B9 :: B10 :: B11 :: B12 :: B13 :: B14 :: B15 :: B16 :: B17 :: A :: L) (B0 :: B1 :: B2 :: B3 :: B4 :: B5 :: B6 :: B7 :: B8 :: B9 :: B10 :: B11 :: B12 :: B13 :: B14 :: B15 :: B16 :: B17 :: L) := .there r17
theorem r19 {A B0 B1 B2 B3 B4 B5 B6 B7 B8 B9 B10 B11 B12 B13 B14 B15 B16 B17 B18 : HProp} {L : List HProp} : Rem A (B0 :: B1 :: B2 :: B3 :: B4 :: B5 :: B6 :: B7 :: B8 :: B9 :: B10 :: B11 :: B12 :: B13 :: B14 :: B15 :: B16 :: B17 :: B18 :: A :: L) (B0 :: B1 :: B2 :: B3 :: B4 :: B5 :: B6 :: B7 :: B8 :: B9 :: B10 :: B11 :: B12 :: B13 :: B14 :: B15 :: B16 :: B17 :: B18 :: L) := .there r18
theorem r20 {A B0 B1 B2 B3 B4 B5 B6 B7 B8 B9 B10 B11 B12 B13 B14 B15 B16 B17 B18 B19 : HProp} {L : List HProp} : Rem A (B0 :: B1 :: B2 :: B3 :: B4 :: B5 :: B6 :: B7 :: B8 :: B9 :: B10 :: B11 :: B12 :: B13 :: B14 :: B15 :: B16 :: B17 :: B18 :: B19 :: A :: L) (B0 :: B1 :: B2 :: B3 :: B4 :: B5 :: B6 :: B7 :: B8 :: B9 :: B10 :: B11 :: B12 :: B13 :: B14 :: B15 :: B16 :: B17 :: B18 :: B19 :: L) := .there r19
theorem r21 {A B0 B1 B2 B3 B4 B5 B6 B7 B8 B9 B10 B11 B12 B13 B14 B15 B16 B17 B18 B19 B20 : HProp} {L : List HProp} : Rem A (B0 :: B1 :: B2 :: B3 :: B4 :: B5 :: B6 :: B7 :: B8 :: B9 :: B10 :: B11 :: B12 :: B13 :: B14 :: B15 :: B16 :: B17 :: B18 :: B19 :: B20 :: A :: L) (B0 :: B1 :: B2 :: B3 :: B4 :: B5 :: B6 :: B7 :: B8 :: B9 :: B10 :: B11 :: B12 :: B13 :: B14 :: B15 :: B16 :: B17 :: B18 :: B19 :: B20 :: L) := .there r20
theorem r22 {A B0 B1 B2 B3 B4 B5 B6 B7 B8 B9 B10 B11 B12 B13 B14 B15 B16 B17 B18 B19 B20 B21 : HProp} {L : List HProp} : Rem A (B0 :: B1 :: B2 :: B3 :: B4 :: B5 :: B6 :: B7 :: B8 :: B9 :: B10 :: B11 :: B12 :: B13 :: B14 :: B15 :: B16 :: B17 :: B18 :: B19 :: B20 :: B21 :: A :: L) (B0 :: B1 :: B2 :: B3 :: B4 :: B5 :: B6 :: B7 :: B8 :: B9 :: B10 :: B11 :: B12 :: B13 :: B14 :: B15 :: B16 :: B17 :: B18 :: B19 :: B20 :: B21 :: L) := .there r21
theorem r23 {A B0 B1 B2 B3 B4 B5 B6 B7 B8 B9 B10 B11 B12 B13 B14 B15 B16 B17 B18 B19 B20 B21 B22 : HProp} {L : List HProp} : Rem A (B0 :: B1 :: B2 :: B3 :: B4 :: B5 :: B6 :: B7 :: B8 :: B9 :: B10 :: B11 :: B12 :: B13 :: B14 :: B15 :: B16 :: B17 :: B18 :: B19 :: B20 :: B21 :: B22 :: A :: L) (B0 :: B1 :: B2 :: B3 :: B4 :: B5 :: B6 :: B7 :: B8 :: B9 :: B10 :: B11 :: B12 :: B13 :: B14 :: B15 :: B16 :: B17 :: B18 :: B19 :: B20 :: B21 :: B22 :: L) := .there r22
theorem r24 {A B0 B1 B2 B3 B4 B5 B6 B7 B8 B9 B10 B11 B12 B13 B14 B15 B16 B17 B18 B19 B20 B21 B22 B23 : HProp} {L : List HProp} : Rem A (B0 :: B1 :: B2 :: B3 :: B4 :: B5 :: B6 :: B7 :: B8 :: B9 :: B10 :: B11 :: B12 :: B13 :: B14 :: B15 :: B16 :: B17 :: B18 :: B19 :: B20 :: B21 :: B22 :: B23 :: A :: L) (B0 :: B1 :: B2 :: B3 :: B4 :: B5 :: B6 :: B7 :: B8 :: B9 :: B10 :: B11 :: B12 :: B13 :: B14 :: B15 :: B16 :: B17 :: B18 :: B19 :: B20 :: B21 :: B22 :: B23 :: L) := .there r23
theorem r25 {A B0 B1 B2 B3 B4 B5 B6 B7 B8 B9 B10 B11 B12 B13 B14 B15 B16 B17 B18 B19 B20 B21 B22 B23 B24 : HProp} {L : List HProp} : Rem A (B0 :: B1 :: B2 :: B3 :: B4 :: B5 :: B6 :: B7 :: B8 :: B9 :: B10 :: B11 :: B12 :: B13 :: B14 :: B15 :: B16 :: B17 :: B18 :: B19 :: B20 :: B21 :: B22 :: B23 :: B24 :: A :: L) (B0 :: B1 :: B2 :: B3 :: B4 :: B5 :: B6 :: B7 :: B8 :: B9 :: B10 :: B11 :: B12 :: B13 :: B14 :: B15 :: B16 :: B17 :: B18 :: B19 :: B20 :: B21 :: B22 :: B23 :: B24 :: L) := .there r24
theorem r26 {A B0 B1 B2 B3 B4 B5 B6 B7 B8 B9 B10 B11 B12 B13 B14 B15 B16 B17 B18 B19 B20 B21 B22 B23 B24 B25 : HProp} {L : List HProp} : Rem A (B0 :: B1 :: B2 :: B3 :: B4 :: B5 :: B6 :: B7 :: B8 :: B9 :: B10 :: B11 :: B12 :: B13 :: B14 :: B15 :: B16 :: B17 :: B18 :: B19 :: B20 :: B21 :: B22 :: B23 :: B24 :: B25 :: A :: L) (B0 :: B1 :: B2 :: B3 :: B4 :: B5 :: B6 :: B7 :: B8 :: B9 :: B10 :: B11 :: B12 :: B13 :: B14 :: B15 :: B16 :: B17 :: B18 :: B19 :: B20 :: B21 :: B22 :: B23 :: B24 :: B25 :: L) := .there r25
theorem r27 {A B0 B1 B2 B3 B4 B5 B6 B7 B8 B9 B10 B11 B12 B13 B14 B15 B16 B17 B18 B19 B20 B21 B22 B23 B24 B25 B26 : HProp} {L : List HProp} : Rem A (B0 :: B1 :: B2 :: B3 :: B4 :: B5 :: B6 :: B7 :: B8 :: B9 :: B10 :: B11 :: B12 :: B13 :: B14 :: B15 :: B16 :: B17 :: B18 :: B19 :: B20 :: B21 :: B22 :: B23 :: B24 :: B25 :: B26 :: A :: L) (B0 :: B1 :: B2 :: B3 :: B4 :: B5 :: B6 :: B7 :: B8 :: B9 :: B10 :: B11 :: B12 :: B13 :: B14 :: B15 :: B16 :: B17 :: B18 :: B19 :: B20 :: B21 :: B22 :: B23 :: B24 :: B25 :: B26 :: L) := .there r26
theorem r28 {A B0 B1 B2 B3 B4 B5 B6 B7 B8 B9 B10 B11 B12 B13 B14 B15 B16 B17 B18 B19 B20 B21 B22 B23 B24 B25 B26 B27 : HProp} {L : List HProp} : Rem A (B0 :: B1 :: B2 :: B3 :: B4 :: B5 :: B6 :: B7 :: B8 :: B9 :: B10 :: B11 :: B12 :: B13 :: B14 :: B15 :: B16 :: B17 :: B18 :: B19 :: B20 :: B21 :: B22 :: B23 :: B24 :: B25 :: B26 :: B27 :: A :: L) (B0 :: B1 :: B2 :: B3 :: B4 :: B5 :: B6 :: B7 :: B8 :: B9 :: B10 :: B11 :: B12 :: B13 :: B14 :: B15 :: B16 :: B17 :: B18 :: B19 :: B20 :: B21 :: B22 :: B23 :: B24 :: B25 :: B26 :: B27 :: L) := .there r27
theorem r29 {A B0 B1 B2 B3 B4 B5 B6 B7 B8 B9 B10 B11 B12 B13 B14 B15 B16 B17 B18 B19 B20 B21 B22 B23 B24 B25 B26 B27 B28 : HProp} {L : List HProp} : Rem A (B0 :: B1 :: B2 :: B3 :: B4 :: B5 :: B6 :: B7 :: B8 :: B9 :: B10 :: B11 :: B12 :: B13 :: B14 :: B15 :: B16 :: B17 :: B18 :: B19 :: B20 :: B21 :: B22 :: B23 :: B24 :: B25 :: B26 :: B27 :: B28 :: A :: L) (B0 :: B1 :: B2 :: B3 :: B4 :: B5 :: B6 :: B7 :: B8 :: B9 :: B10 :: B11 :: B12 :: B13 :: B14 :: B15 :: B16 :: B17 :: B18 :: B19 :: B20 :: B21 :: B22 :: B23 :: B24 :: B25 :: B26 :: B27 :: B28 :: L) := .there r28
theorem r30 {A B0 B1 B2 B3 B4 B5 B6 B7 B8 B9 B10 B11 B12 B13 B14 B15 B16 B17 B18 B19 B20 B21 B22 B23 B24 B25 B26 B27 B28 B29 : HProp} {L : List HProp} : Rem A (B0 :: B1 :: B2 :: B3 :: B4 :: B5 :: B6 :: B7 :: B8 :: B9 :: B10 :: B11 :: B12 :: B13 :: B14 :: B15 :: B16 :: B17 :: B18 :: B19 :: B20 :: B21 :: B22 :: B23 :: B24 :: B25 :: B26 :: B27 :: B28 :: B29 :: A :: L) (B0 :: B1 :: B2 :: B3 :: B4 :: B5 :: B6 :: B7 :: B8 :: B9 :: B10 :: B11 :: B12 :: B13 :: B14 :: B15 :: B16 :: B17 :: B18 :: B19 :: B20 :: B21 :: B22 :: B23 :: B24 :: B25 :: B26 :: B27 :: B28 :: B29 :: L) := .there r29
theorem r31 {A B0 B1 B2 B3 B4 B5 B6 B7 B8 B9 B10 B11 B12 B13 B14 B15 B16 B17 B18 B19 B20 B21 B22 B23 B24 B25 B26 B27 B28 B29 B30 : HProp} {L : List HProp} : Rem A (B0 :: B1 :: B2 :: B3 :: B4 :: B5 :: B6 :: B7 :: B8 :: B9 :: B10 :: B11 :: B12 :: B13 :: B14 :: B15 :: B16 :: B17 :: B18 :: B19 :: B20 :: B21 :: B22 :: B23 :: B24 :: B25 :: B26 :: B27 :: B28 :: B29 :: B30 :: A :: L) (B0 :: B1 :: B2 :: B3 :: B4 :: B5 :: B6 :: B7 :: B8 :: B9 :: B10 :: B11 :: B12 :: B13 :: B14 :: B15 :: B16 :: B17 :: B18 :: B19 :: B20 :: B21 :: B22 :: B23 :: B24 :: B25 :: B26 :: B27 :: B28 :: B29 :: B30 :: L) := .there r30
theorem r32 {A B0 B1 B2 B3 B4 B5 B6 B7 B8 B9 B10 B11 B12 B13 B14 B15 B16 B17 B18 B19 B20 B21 B22 B23 B24 B25 B26 B27 B28 B29 B30 B31 : HProp} {L : List HProp} : Rem A (B0 :: B1 :: B2 :: B3 :: B4 :: B5 :: B6 :: B7 :: B8 :: B9 :: B10 :: B11 :: B12 :: B13 :: B14 :: B15 :: B16 :: B17 :: B18 :: B19 :: B20 :: B21 :: B22 :: B23 :: B24 :: B25 :: B26 :: B27 :: B28 :: B29 :: B30 :: B31 :: A :: L) (B0 :: B1 :: B2 :: B3 :: B4 :: B5 :: B6 :: B7 :: B8 :: B9 :: B10 :: B11 :: B12 :: B13 :: B14 :: B15 :: B16 :: B17 :: B18 :: B19 :: B20 :: B21 :: B22 :: B23 :: B24 :: B25 :: B26 :: B27 :: B28 :: B29 :: B30 :: B31 :: L) := .there r31
theorem m6 {α : Type} {a b0 b1 b2 b3 b4 b5 : α} {l : List α} : a ∈ b0 :: b1 :: b2 :: b3 :: b4 :: b5 :: a :: l := .tail _ m5
theorem m7 {α : Type} {a b0 b1 b2 b3 b4 b5 b6 : α} {l : List α} : a ∈ b0 :: b1 :: b2 :: b3 :: b4 :: b5 :: b6 :: a :: l := .tail _ m6
theorem m8 {α : Type} {a b0 b1 b2 b3 b4 b5 b6 b7 : α} {l : List α} : a ∈ b0 :: b1 :: b2 :: b3 :: b4 :: b5 :: b6 :: b7 :: a :: l := .tail _ m7
theorem m9 {α : Type} {a b0 b1 b2 b3 b4 b5 b6 b7 b8 : α} {l : List α} : a ∈ b0 :: b1 :: b2 :: b3 :: b4 :: b5 :: b6 :: b7 :: b8 :: a :: l := .tail _ m8
theorem m10 {α : Type} {a b0 b1 b2 b3 b4 b5 b6 b7 b8 b9 : α} {l : List α} : a ∈ b0 :: b1 :: b2 :: b3 :: b4 :: b5 :: b6 :: b7 :: b8 :: b9 :: a :: l := .tail _ m9
theorem m11 {α : Type} {a b0 b1 b2 b3 b4 b5 b6 b7 b8 b9 b10 : α} {l : List α} : a ∈ b0 :: b1 :: b2 :: b3 :: b4 :: b5 :: b6 :: b7 :: b8 :: b9 :: b10 :: a :: l := .tail _ m10
theorem m12 {α : Type} {a b0 b1 b2 b3 b4 b5 b6 b7 b8 b9 b10 b11 : α} {l : List α} : a ∈ b0 :: b1 :: b2 :: b3 :: b4 :: b5 :: b6 :: b7 :: b8 :: b9 :: b10 :: b11 :: a :: l := .tail _ m11
end Go.SL
