/- Typed rules for slices of one's own, for slices that are read, and for letting go. -/
import Derived.Test.YtpmdpondlmkojaaSL12
set_option linter.unusedVariables false
namespace Go.SL
open Go

/-- A slice type with its element's size. -/
structure ElT (P : Program) (t e sz : Nat) : Prop where
  ht : P.underlying t = some (.slice e)
  hsz : tySize P e = some sz
  hz : ∃ z, tyZeroV P e = some z ∧ z.cells.size = sz
  hpos : 0 < sz
  hby : ∃ bytes, tyBytes P e = some bytes ∧ bytes ≤ 2048

def zOK (P : Program) (e sz : Nat) : Bool := match tyZeroV P e with
  | some z => z.cells.size == sz
  | none => false
def byOK (P : Program) (e : Nat) : Bool := match tyBytes P e with
  | some n => n ≤ 2048
  | none => false
theorem ElT.mk' {P : Program} {t e sz : Nat} (ht : P.underlying t = some (.slice e)) (hsz : tySize P e = some sz) (hz : zOK P e sz = true) (hp : Nat.ble 1 sz = true) (hb : byOK P e = true) : ElT P t e sz := by
  refine ⟨ht, hsz, ?_, Nat.le_of_ble_eq_true hp, ?_⟩
  · unfold zOK at hz; split at hz
    · rename_i z h; exact ⟨z, h, by simpa using hz⟩
    · cases hz
  · unfold byOK at hb; split at hb
    · rename_i n h; exact ⟨n, h, by simpa using hb⟩
    · cases hb

section
variable {P : Program} {K : Hp} {H H' : List HProp} {α : Type} {enc : α → List Value} {a : Option Addr} {t tx e ty sz cap : Nat} {l new : List α} {cs : Array Bool} {c : VP}

theorem limb {n bytes : Nat} (hn : n ≤ lim) (hb : bytes ≤ 2048) : n * bytes ≤ 140737488355328 := by
  have := Nat.mul_le_mul hn hb
  simp only [lim] at this
  omega

theorem ap {x : Value} (hr : Rem (OwnL enc a e sz cap l) H H') (T : ElT P t e sz) (hs : SrcOK P K H' sz tx x (new.map enc)) (hl : l.length + new.length ≤ lim)
    (h : ∀ a' cap', (0 < (l ++ new).length → Has a') → c (.slice a' (l ++ new).length cap') K (OwnL enc a' e sz cap' (l ++ new) :: H')) :
    WStep P (.builtin .append #[t, tx] ty cs [.slice a l.length cap, x]) K H c := by
  obtain ⟨z, hz, hzs⟩ := T.hz
  obtain ⟨by_, hby, hbb⟩ := T.hby
  refine append_rule hr (by simp) T.ht T.hsz hz hzs T.hpos hby hs (limb (by simpa using hl) hbb) (by simp only [List.length_map, lim] at hl ⊢; omega) fun a' cap' ha => ?_
  have := h a' cap' (by simpa using ha)
  rw [List.length_append] at this
  rw [List.length_map, List.length_map, ← List.map_append]
  exact this
theorem apn {x : Value} (T : ElT P t e sz) (hs : SrcOK P K H sz tx x (new.map enc)) (hl : new.length ≤ lim)
    (h : ∀ a' cap', (0 < new.length → Has a') → c (.slice a' new.length cap') K (OwnL enc a' e sz cap' new :: H)) :
    WStep P (.builtin .append #[t, tx] ty cs [.slice none 0 0, x]) K H c := by
  obtain ⟨z, hz, hzs⟩ := T.hz
  obtain ⟨by_, hby, hbb⟩ := T.hby
  refine append_nil T.ht T.hsz hz hzs T.hpos hby hs (limb (by simpa using hl) hbb) (by simp only [List.length_map, lim] at hl ⊢; omega) fun a' cap' ha => ?_
  have := h a' cap' (by simpa using ha)
  simpa using this
theorem WStep.conv1 {m : M} (hr : ∀ Γ w, Sat Γ K H w → Sat Γ K H' w) (h : WStep P m K H' c) : WStep P m K H c :=
  WStep.conv fun Γ w s => ⟨K, H', hr Γ w s, h⟩
theorem Sat.empO {Γ : World} {w : World} {b : Nat} (s : Sat Γ K (Cells b e [] :: H) w) : Sat Γ K (OwnL enc (some ⟨b, 0, none⟩) e sz 0 [] :: H) w :=
  Sat.mkOwn (cur := #[]) s (by simp) (by simp) (by simp) (by simp) (by simp) (by simp)
/-- append onto an empty literal. -/
theorem ape {x : Value} {b : Nat} (hr : Rem (Cells b e []) H H') (T : ElT P t e sz) (hs : SrcOK P K H' sz tx x (new.map enc)) (hl : new.length ≤ lim)
    (h : ∀ a' cap', (0 < new.length → Has a') → c (.slice a' new.length cap') K (OwnL enc a' e sz cap' new :: H')) :
    WStep P (.builtin .append #[t, tx] ty cs [.slice (some ⟨b, 0, none⟩) 0 0, x]) K H c := by
  refine WStep.conv1 (H' := OwnL enc (some ⟨b, 0, none⟩) e sz 0 [] :: H') (fun Γ w s => (s.rem hr).empO) ?_
  exact ap (l := ([] : List α)) r0 T hs (by simpa using hl) (by simpa using h)

/-- What stands in a literal of one's own. -/
theorem src_lit {b T n cap : Nat} {cl : List Value} {e' : Nat} (ht : P.underlying tx = some (.slice e')) (hr : Rem (Cells b T cl) H H') (hn : n = new.length) (hc : (new.map enc).flatten = cl) (hl : ∀ x ∈ new, (enc x).length = sz) (ho : allOne cl = true) :
    SrcOK P K H sz tx (.slice (some ⟨b, 0, none⟩) n cap) (new.map enc) := by
  subst hn
  have hone := allOne_spec ho
  have hlen : ∀ l ∈ new.map enc, l.length = sz := by simpa using hl
  refine ⟨fun Γ w s => ?_, hlen, fun l h v hv => hone v (by rw [← hc]; exact List.mem_flatten.2 ⟨l, h, hv⟩)⟩
  have hb := (s.rem hr).blk
  rw [hc, List.length_map]
  refine Src.ofSlice w ht _ _ cap _ (by rw [← hc, flat_len hlen, List.length_map]) (fun j u hu => ?_) hone
  rw [addr_add, cell_blk hb]
  simpa using hu
theorem src_k {n e' : Nat} (ht : P.underlying tx = some (.slice e')) (hr : RdL enc K a sz new) (hn : n = new.length) : SrcOK P K H sz tx (.slice a n cap) (new.map enc) :=
  src_rd ht hr (by simpa using hn)
theorem src_s {s : Str} (ht : P.underlying tx = some .string) : SrcOK P K H 1 tx (str s) (s.map eU) := src_str ht

/-! ### stores, loads -/
theorem splice_flat : ∀ (css : List (List Value)) (i sz : Nat) (y : List Value) (o : Nat) (vs : List Value) (cur : List Value), (∀ l ∈ css, l.length = sz) → (hi : i < css.length) → splice o vs css[i] = y → y.length = sz →
    o + vs.length ≤ sz → (∀ (j : Nat) (v : Value), css.flatten[j]? = some v → cur[j]? = some v) → css.flatten.length ≤ cur.length → ∀ (j : Nat) (v : Value), (css.set i y).flatten[j]? = some v → (splice (i * sz + o) vs cur)[j]? = some v := by
  intro css i sz y o vs cur hl hi hy hys ho hc hcl j v hv
  have hfl := flat_len hl
  have hl' : ∀ l ∈ css.set i y, l.length = sz := fun l hm => by
    rcases List.mem_or_eq_of_mem_set hm with h | h
    · exact hl l h
    · rw [h]; exact hys
  have hfl' := flat_len hl'
  have hsz0 : 0 < sz := by
    have : j < (css.set i y).flatten.length := (List.getElem?_eq_some_iff.1 hv).1
    rw [hfl'] at this
    rcases Nat.eq_zero_or_pos sz with h | h
    · rw [h] at this; simp at this
    · exact h
  have hj : j < css.length * sz := by have := (List.getElem?_eq_some_iff.1 hv).1; rw [hfl'] at this; simpa using this
  have hq : j / sz < css.length := Nat.div_lt_of_lt_mul (by rw [Nat.mul_comm]; exact hj)
  have hdm : j / sz * sz + j % sz = j := by rw [Nat.mul_comm]; exact Nat.div_add_mod j sz
  have hml : j % sz < sz := Nat.mod_lt _ hsz0
  have hbound : i * sz + o + vs.length ≤ cur.length := by
    have : (i + 1) * sz ≤ css.length * sz := Nat.mul_le_mul_right _ hi
    rw [Nat.succ_mul] at this
    omega
  rw [splice_get _ _ _ _ hbound]
  by_cases e : j / sz = i
  · have h1 : (css.set i y)[j / sz]? = some y := by rw [e]; simp [hi]
    have h2 := flat_at hl' h1 (j % sz)
    have h3 : y[j % sz]? = some v := by
      have hyl : j % sz < y.length := by omega
      have := h2 _ (List.getElem?_eq_getElem hyl)
      rw [hdm, hv] at this
      rw [List.getElem?_eq_getElem hyl]; exact this.symm
    have hci : css[i].length = sz := hl _ (List.getElem_mem hi)
    rw [← hy, splice_get _ _ _ _ (by omega)] at h3
    rw [e] at hdm
    by_cases c1 : j % sz < o
    · rw [if_pos c1] at h3
      rw [if_pos (by omega)]
      refine hc j v ?_
      have := flat_at hl (List.getElem?_eq_getElem hi) (j % sz) v h3
      rw [hdm] at this; exact this
    · rw [if_neg c1] at h3
      rw [if_neg (by omega)]
      by_cases c2 : j % sz < o + vs.length
      · rw [if_pos c2] at h3
        rw [if_pos (by omega)]
        rw [show j - (i * sz + o) = j % sz - o from by omega]; exact h3
      · rw [if_neg c2] at h3
        rw [if_neg (by omega)]
        refine hc j v ?_
        have := flat_at hl (List.getElem?_eq_getElem hi) (j % sz) v h3
        rw [hdm] at this; exact this
  · have h1 : (css.set i y)[j / sz]? = some css[j / sz] := by rw [List.getElem?_set_ne (fun h => e h.symm)]; exact List.getElem?_eq_getElem hq
    have hlq : css[j / sz].length = sz := hl _ (List.getElem_mem hq)
    have h2 := flat_at hl' h1 (j % sz) _ (List.getElem?_eq_getElem (by omega))
    rw [hdm, hv] at h2
    have h3 := flat_at hl (List.getElem?_eq_getElem hq) (j % sz) _ (List.getElem?_eq_getElem (by omega))
    rw [hdm, ← h2] at h3
    have hcur := hc j v h3
    have hout : j < i * sz + o ∨ i * sz + o + vs.length ≤ j := by
      rcases Nat.lt_or_ge (j / sz) i with h | h
      · left
        have : (j / sz + 1) * sz ≤ i * sz := Nat.mul_le_mul_right _ h
        rw [Nat.succ_mul] at this; omega
      · right
        have : (i + 1) * sz ≤ j / sz * sz := Nat.mul_le_mul_right _ (by omega)
        rw [Nat.succ_mul] at this; omega
    rcases hout with h | h
    · rw [if_pos h]; exact hcur
    · rw [if_neg (by omega), if_neg (by omega)]; exact hcur

theorem st_own {i o k n : Nat} {v : Value} {y : α} (x : α) (hr : Rem (OwnL enc a e sz cap l) H H') (ht : tySize P t = some n) (hx : l[i]? = some x) (hk : k = i * sz + o)
    (hv : cellsL v fun vs => n = vs.length ∧ allOne vs = true ∧ o + n ≤ sz ∧ splice o vs (enc x) = enc y ∧ (enc y).length = sz ∧ allOne (enc y) = true) (h : c undef K (OwnL enc a e sz cap (l.set i y) :: H')) :
    WStep P (.store t (eptr a k) v) K H c := by
  rw [cellsL_eq] at hv
  obtain ⟨h1, h2, h3, h4, h5, h6⟩ := hv
  subst hk
  refine ⟨fun Γ w s => ?_⟩
  obtain ⟨hl, ho, hA⟩ := (s.rem hr).own
  have hi : i < l.length := (List.getElem?_eq_some_iff.1 hx).1
  rcases hA with ⟨_, _, hn, _⟩ | ⟨b, cur, fz, hfz, rfl, k1, k2, k3, k4, s0⟩
  · simp at hn; subst hn; simp at hi
  have him : i < (l.map enc).length := by simpa using hi
  have hge : (l.map enc)[i] = enc x := by
    have := (List.getElem?_eq_some_iff.1 hx).2
    simp [this]
  have hfl := flat_len hl
  have hb1 : (i + 1) * sz ≤ cap * sz := Nat.mul_le_mul_right _ (by simp at k2; omega)
  rw [Nat.succ_mul] at hb1
  obtain ⟨w', hrun, hs⟩ := Sat.storeCellsF (P := P) (fz := fz) v.cells.toList (i * sz + o) 0 cur.toList w (by simpa using s0) (by simp [k1]; simp at h1; omega) (allOne_spec h2) (by simpa using hfz)
  refine ⟨_, w', undef, K, _, ?_, .inr ⟨rfl, rfl⟩, ?_, h⟩
  · have hsz : v.cells.size = n := by rw [h1]; simp
    rw [eptr_some]
    simp [M.sem, Instr.storeAt, Instr.sureAddr, storeVar, run_sizeOf' ht, hsz, hrun]
  · have hset : (l.set i y).map enc = (l.map enc).set i (enc y) := by simp [List.map_set]
    show Sat Γ K (OwnA _ _ _ _ ((l.set i y).map enc) :: H') w'
    rw [hset]
    have hall : ∀ m ∈ (l.map enc).set i (enc y), m.length = sz ∧ ∀ v ∈ m, v.oneCell' = true := fun m hm => by
      rcases List.mem_or_eq_of_mem_set hm with h | h
      · exact ⟨hl m h, ho m h⟩
      · rw [h]; exact ⟨h5, allOne_spec h6⟩
    refine hs.mkOwnF ?_ (fun m hm => (hall m hm).1) (fun m hm => (hall m hm).2) ?_ (by simpa using k2) k3 ?_
    · rcases hfz with h | h
      · exact .inl h
      · rcases splice_len (i * sz + o + 0) v.cells.toList cur.toList with h' | h'
        · right; rw [show (splice (i * sz + o + 0) v.cells.toList cur.toList).toArray.size = cur.toList.length from by simpa using h']; simpa using h
        · simp [k1] at h'; simp at h1; omega
    · rcases splice_len (i * sz + o + 0) v.cells.toList cur.toList with h | h
      · rw [show (splice (i * sz + o + 0) v.cells.toList cur.toList).toArray.size = cur.size from by simpa using h]; exact k1
      · simp at h; simp at h1; omega
    · intro j u hu
      have := splice_flat (l.map enc) i sz (enc y) o v.cells.toList cur.toList hl him (by rw [hge]; exact h4) h5 (by omega) (fun j v hv => by simpa using k4 j v hv) (by rw [hfl]; exact Nat.le_trans (Nat.mul_le_mul_right _ k2) (by simpa using k1)) j u hu
      simpa using this

theorem own_cell {Γ : World} {w : World} {i o : Nat} {x : α} {v : Value} (s : Sat Γ K (OwnL enc a e sz cap l :: H) w) (hx : l[i]? = some x) (hv : (enc x)[o]? = some v) :
    ∃ b, a = some ⟨b, 0, none⟩ ∧ w.cell? ⟨b, i * sz + o, none⟩ = some v := by
  obtain ⟨hl, ho, hA⟩ := s.own
  have hi : i < l.length := (List.getElem?_eq_some_iff.1 hx).1
  rcases hA with ⟨_, _, hn, _⟩ | ⟨b, cur, fz, hfz, rfl, k1, k2, k3, k4, s0⟩
  · simp at hn; subst hn; simp at hi
  refine ⟨b, rfl, ?_⟩
  have := flat_at hl (mp hx) o v hv
  have hc := k4 _ _ this
  have := cell_blk (cs := cur.toList) (T := e) (fz := fz) (by simpa using s0.blk) (i * sz + o)
  rw [this]; simpa using hc
theorem ld_own {i o k : Nat} {x : α} {v : Value} {c : Value → Prop} (hr : Rem (OwnL enc a e sz cap l) H H') (ht : tyShape P t = some none) (hx : l[i]? = some x) (hv : (enc x)[o]? = some v) (hk : k = i * sz + o) (h : c v) :
    RStepS P (.load t (eptr a k)) K H c := by
  subst hk
  refine RStepS.mk v (fun Γ w s => ?_) h
  obtain ⟨b, rfl, hc⟩ := own_cell (s.rem hr) hx hv
  rw [eptr_some]
  simp [M.sem, Instr.loadAt, Instr.sureAddr, run_loadVar_one ht (by simpa using hc)]
theorem ldn_own {i k : Nat} {x : α} {c : Value → Prop} (hr : Rem (OwnL enc a e sz cap l) H H') (ht : tyShape P t = some (some sz)) (hx : l[i]? = some x) (hl : (enc x).length = sz) (hk : k = i * sz) (h : c (.agg (enc x).toArray)) :
    RStepS P (.load t (eptr a k)) K H c := by
  subst hk
  refine RStepS.mk _ (fun Γ w s => ?_) h
  have s' := s.rem hr
  obtain ⟨hl', ho, hA⟩ := s'.own
  have hi : i < l.length := (List.getElem?_eq_some_iff.1 hx).1
  rcases hA with ⟨_, _, hn, _⟩ | ⟨b, cur, fz, hfz, rfl, _⟩
  · simp at hn; subst hn; simp at hi
  rw [eptr_some]
  have := run_loadVar_agg (P := P) (a := ⟨b, 0 + i * sz, none⟩) (w := w) ht hl (fun j v hj => by
    obtain ⟨b', e1, hc⟩ := own_cell s' hx hj
    cases e1
    rw [addr_add, Nat.zero_add]; exact hc)
  simp only [Nat.zero_add] at this
  simp [M.sem, Instr.loadAt, Instr.sureAddr, this]

/-! ### letting go of what one owns: from now on it is read alone -/
theorem Sat.fz {Γ : World} {w : World} (hr : Rem (OwnL enc a e sz cap l) H H') (s : Sat Γ K H w) : ∃ K' : Hp, K.Le K' ∧ RdL enc K' a sz l ∧ Sat Γ K' H' w := (s.rem hr).ownFreeze
theorem fzE {K0 : Hp} {F : HProp} {R : VP} {v : Value} (hr : Rem (OwnL enc a e sz cap l) H H') (h : ∀ K', K.Le K' → RdL enc K' a sz l → EndStep K0 F R v K' H') : EndStep K0 F R v K H :=
  EndStep.conv fun Γ w s => let ⟨K', h1, h2, h3⟩ := s.fz hr; ⟨K', H', h3, h K' h1 h2⟩
theorem fzRo {σ : Type} {ws : List Nat} {sl : σ → List (Nat × Value)} {Hf : σ → List HProp} {C : σ → Hp → Prop} {μ : σ → Nat} {env0 : List Value} {K0 : Hp} {m : Nat} {env : List Value}
    (hr : Rem (OwnL enc a e sz cap l) H H') (h : ∀ K', K.Le K' → RdL enc K' a sz l → RoundStep ws sl Hf C μ env0 K0 m env K' H') : RoundStep ws sl Hf C μ env0 K0 m env K H :=
  RoundStep.conv fun Γ w s => let ⟨K', h1, h2, h3⟩ := s.fz hr; ⟨K', H', h3, h K' h1 h2⟩
theorem fzMe {σ : Type} {ws : List Nat} {sl : σ → List (Nat × Value)} {Hf : σ → List HProp} {C : σ → Hp → Prop} {env0 : List Value} {K0 : Hp} {env : List Value}
    (hr : Rem (OwnL enc a e sz cap l) H H') (h : ∀ K', K.Le K' → RdL enc K' a sz l → MeetStep ws sl Hf C env0 K0 env K' H') : MeetStep ws sl Hf C env0 K0 env K H :=
  MeetStep.conv fun Γ w s => let ⟨K', h1, h2, h3⟩ := s.fz hr; ⟨K', H', h3, h K' h1 h2⟩
theorem nilRo {σ : Type} {ws : List Nat} {sl : σ → List (Nat × Value)} {Hf : σ → List HProp} {C : σ → Hp → Prop} {μ : σ → Nat} {env0 : List Value} {K0 : Hp} {m : Nat} {env : List Value} (enc : α → List Value) (e sz : Nat)
    (h : RoundStep ws sl Hf C μ env0 K0 m env K (OwnL enc none e sz 0 [] :: H)) : RoundStep ws sl Hf C μ env0 K0 m env K H :=
  RoundStep.conv fun Γ w s => ⟨K, _, s.mkNil, h⟩
theorem nilMe {σ : Type} {ws : List Nat} {sl : σ → List (Nat × Value)} {Hf : σ → List HProp} {C : σ → Hp → Prop} {env0 : List Value} {K0 : Hp} {env : List Value} (enc : α → List Value) (e sz : Nat)
    (h : MeetStep ws sl Hf C env0 K0 env K (OwnL enc none e sz 0 [] :: H)) : MeetStep ws sl Hf C env0 K0 env K H :=
  MeetStep.conv fun Γ w s => ⟨K, _, s.mkNil, h⟩
theorem fzC {root : Code} {n : Nat} {p : List Nat} {env : List Value} {Q : Exit → KP} (hr : Rem (OwnL enc a e sz cap l) H H') (h : ∀ K', K.Le K' → RdL enc K' a sz l → CStep P root n p env K' H' Q) : CStep P root n p env K H Q :=
  CStep.conv fun Γ w s => let ⟨K', h1, h2, h3⟩ := s.fz hr; ⟨K', H', h3, h K' h1 h2⟩
theorem fzW {m : M} (hr : Rem (OwnL enc a e sz cap l) H H') (h : ∀ K', K.Le K' → RdL enc K' a sz l → WStep P m K' H' c) : WStep P m K H c :=
  WStep.conv fun Γ w s => let ⟨K', h1, h2, h3⟩ := s.fz hr; ⟨K', H', h3, h K' h1 h2⟩
theorem fzF {f : FuncId} {args : List Value} (hf : ∀ a w, (callFunc f a).run P w = .ok (.enter f a) w) (hr : Rem (OwnL enc a e sz cap l) H H') (h : ∀ K', K.Le K' → RdL enc K' a sz l → CallStep P f args K' H' c) : CallStep P f args K H c :=
  CallStep.conv hf fun Γ w s => let ⟨K', h1, h2, h3⟩ := s.fz hr; ⟨K', H', h3, h K' h1 h2⟩
theorem fzR {m : M} {c : Value → Prop} (hr : Rem (OwnL enc a e sz cap l) H H') (h : ∀ K', K.Le K' → RdL enc K' a sz l → RStep P m K' H' c) : RStep P m K H c :=
  RStep.conv fun Γ w s => let ⟨K', h1, h2, h3⟩ := s.fz hr; ⟨K', H', h3, h K' h1 h2⟩
/-- A literal becomes a slice of one's own. -/
theorem Sat.lit {Γ : World} {w : World} {b : Nat} {cl : List Value} (s : Sat Γ K (Cells b e cl :: H) w) (hc : (l.map enc).flatten = cl) (hl : ∀ x ∈ l, (enc x).length = sz) (ho : allOne cl = true) (hlen : l.length ≤ lim) :
    Sat Γ K (OwnL enc (some ⟨b, 0, none⟩) e sz l.length l :: H) w := by
  have hone := allOne_spec ho
  have hl' : ∀ m ∈ l.map enc, m.length = sz := by simpa using hl
  refine Sat.mkOwn (cur := cl.toArray) s hl' (fun m hm v hv => hone v (by rw [← hc]; exact List.mem_flatten.2 ⟨m, hm, hv⟩)) ?_ (by simp) (by simp only [lim] at hlen; simp only [maxLen]; omega) (fun j v hv => by rw [hc] at hv; simpa using hv)
  rw [← hc]
  have := flat_len hl'
  exact Nat.le_of_eq (by simpa using this.symm)
theorem litC {root : Code} {n b : Nat} {p : List Nat} {env : List Value} {Q : Exit → KP} {cl : List Value} (hr : Rem (Cells b e cl) H H') (hc : (l.map enc).flatten = cl) (hl : ∀ x ∈ l, (enc x).length = sz) (ho : allOne cl = true) (hlen : l.length ≤ lim)
    (h : CStep P root n p env K (OwnL enc (some ⟨b, 0, none⟩) e sz l.length l :: H') Q) : CStep P root n p env K H Q :=
  CStep.conv fun Γ w s => ⟨K, _, (s.rem hr).lit hc hl ho hlen, h⟩
theorem litW {m : M} {b : Nat} {cl : List Value} (hr : Rem (Cells b e cl) H H') (hc : (l.map enc).flatten = cl) (hl : ∀ x ∈ l, (enc x).length = sz) (ho : allOne cl = true) (hlen : l.length ≤ lim)
    (h : WStep P m K (OwnL enc (some ⟨b, 0, none⟩) e sz l.length l :: H') c) : WStep P m K H c :=
  WStep.conv fun Γ w s => ⟨K, _, (s.rem hr).lit hc hl ho hlen, h⟩
theorem litE {b : Nat} {K0 : Hp} {F : HProp} {R : VP} {v : Value} {cl : List Value} (hr : Rem (Cells b e cl) H H') (hc : (l.map enc).flatten = cl) (hl : ∀ x ∈ l, (enc x).length = sz) (ho : allOne cl = true) (hlen : l.length ≤ lim)
    (h : EndStep K0 F R v K (OwnL enc (some ⟨b, 0, none⟩) e sz l.length l :: H')) : EndStep K0 F R v K H :=
  EndStep.conv fun Γ w s => ⟨K, _, (s.rem hr).lit hc hl ho hlen, h⟩
theorem litF {f : FuncId} {args : List Value} {b : Nat} {cl : List Value} (hf : ∀ a w, (callFunc f a).run P w = .ok (.enter f a) w) (hr : Rem (Cells b e cl) H H') (hc : (l.map enc).flatten = cl) (hl : ∀ x ∈ l, (enc x).length = sz) (ho : allOne cl = true) (hlen : l.length ≤ lim)
    (h : CallStep P f args K (OwnL enc (some ⟨b, 0, none⟩) e sz l.length l :: H') c) : CallStep P f args K H c :=
  CallStep.conv hf fun Γ w s => ⟨K, _, (s.rem hr).lit hc hl ho hlen, h⟩
theorem Sat.nilO {Γ : World} {w : World} (s : Sat Γ K H w) : Sat Γ K (OwnL enc none e sz 0 [] :: H) w := s.mkNil
theorem nilC {root : Code} {n : Nat} {p : List Nat} {env : List Value} {Q : Exit → KP} (enc : α → List Value) (e sz : Nat) (h : CStep P root n p env K (OwnL enc none e sz 0 [] :: H) Q) : CStep P root n p env K H Q :=
  CStep.conv fun Γ w s => ⟨K, _, s.nilO, h⟩
theorem nilE {K0 : Hp} {F : HProp} {R : VP} {v : Value} (enc : α → List Value) (e sz : Nat) (h : EndStep K0 F R v K (OwnL enc none e sz 0 [] :: H)) : EndStep K0 F R v K H :=
  EndStep.conv fun Γ w s => ⟨K, _, s.nilO, h⟩
theorem nilF {f : FuncId} {args : List Value} (hf : ∀ a w, (callFunc f a).run P w = .ok (.enter f a) w) (enc : α → List Value) (e sz : Nat) (h : CallStep P f args K (OwnL enc none e sz 0 [] :: H) c) : CallStep P f args K H c :=
  CallStep.conv hf fun Γ w s => ⟨K, _, s.nilO, h⟩
end
end Go.SL
