/- The rules, third part: slices that are read, slices that are owned. -/
import Derived.Test.YtpmdpondlmkojaaSL6
set_option linter.unusedVariables false
namespace Go.SL
open Go

section
variable {P : Program}

/-- A slice's elements lie in memory that nobody writes: each a list of 'sz' cells. -/
structure RdS (K : Hp) (a : Option Addr) (sz : Nat) (css : List (List Value)) : Prop where
  len : ∀ l ∈ css, l.length = sz
  one : ∀ l ∈ css, ∀ v ∈ l, v.oneCell' = true
  cells : css ≠ [] → ∃ b off cs T fz, a = some ⟨b, off, none⟩ ∧ K b = some (.cells cs T fz) ∧ ∀ (i : Nat) (v : Value), css.flatten[i]? = some v → cs[off + i]? = some v

theorem RdS.mono {K K' : Hp} {a : Option Addr} {sz : Nat} {css : List (List Value)} (h : RdS K a sz css) (hk : K.Le K') : RdS K' a sz css :=
  ⟨h.len, h.one, fun hn => let ⟨b, off, cs, T, fz, e, k, c⟩ := h.cells hn; ⟨b, off, cs, T, fz, e, hk _ _ k, c⟩⟩
theorem RdS.nil {K : Hp} {a : Option Addr} {sz : Nat} : RdS K a sz [] := ⟨fun _ h => (by cases h), fun _ h => (by cases h), fun h => absurd rfl h⟩

/-- The place of an element, or of a part of one: 'k' cells behind the slice's head. -/
@[irreducible] def eptr (a : Option Addr) (k : Nat) : Value := .pointer (a.map (·.add k))
theorem eptr_some (b off k : Nat) : eptr (some ⟨b, off, none⟩) k = .pointer (some ⟨b, off + k, none⟩) := by
  unfold eptr; simp [addr_add]

/-- The slice leads to memory, where it has an element. -/
def Has (a : Option Addr) : Prop := ∃ b off, a = some ⟨b, off, none⟩
theorem RdS.has {K : Hp} {a : Option Addr} {sz : Nat} {css : List (List Value)} (h : RdS K a sz css) (hn : 0 < css.length) : Has a := by
  obtain ⟨b, off, _, _, _, e, _⟩ := h.cells (by intro e; simp [e] at hn)
  exact ⟨b, off, e⟩

theorem index_addr {t e sz n cap : Nat} {a : Option Addr} {k : IntKind} {i : Int} {c : Value → Prop} (ht : P.underlying t = some (.slice e)) (hs : tySize P e = some sz) (ha : Has a) (h0 : 0 ≤ i) (hi : i < n)
    (h : forceN sz fun sz => c (eptr a (i.toNat * sz))) : NStep P (.indexAddr t (.slice a n cap) (.int k i)) c := by
  obtain ⟨b, off, rfl⟩ := ha
  rw [forceN_eq] at h
  refine NStep.mk _ (fun w => ?_) h
  rw [eptr_some]
  simp [M.sem, Instr.indexAt, asIntOf, run_underlying ht, h0, hi, run_sizeOf' hs, addr_add]

theorem eptr_field {s f o k : Nat} {a : Option Addr} {c : Value → Prop} (ho : fieldOff P s f = some o) (ha : Has a) (h : forceN o fun o => c (eptr a (k + o))) : NStep P (.fieldAddr s (eptr a k) f) c := by
  obtain ⟨b, off, rfl⟩ := ha
  rw [forceN_eq] at h
  refine NStep.mk _ (fun w => ?_) h
  rw [eptr_some, eptr_some]
  simp [M.sem, run_fieldAt ho, addr_add, Nat.add_assoc]

theorem flat_at : ∀ {css : List (List Value)} {sz i : Nat} {l : List Value}, (∀ l ∈ css, l.length = sz) → css[i]? = some l → ∀ j v, l[j]? = some v → css.flatten[i * sz + j]? = some v
  | l0 :: css, sz, 0, l, hl, hi, j, v, hj => by
    simp at hi; subst hi
    simp only [List.flatten_cons, Nat.zero_mul, Nat.zero_add]
    rw [List.getElem?_append_left (List.getElem?_eq_some_iff.1 hj).1]
    exact hj
  | l0 :: css, sz, i + 1, l, hl, hi, j, v, hj => by
    simp only [List.getElem?_cons_succ] at hi
    have h0 := hl l0 (by simp)
    have ih := flat_at (fun l h => hl l (by simp [h])) hi j v hj
    simp only [List.flatten_cons]
    rw [List.getElem?_append_right (by rw [h0, Nat.succ_mul]; omega)]
    rw [show (i + 1) * sz + j - l0.length = i * sz + j from by rw [h0, Nat.succ_mul]; omega]
    exact ih

theorem RdS.cell {K : Hp} {a : Option Addr} {sz : Nat} {css : List (List Value)} (h : RdS K a sz css) {i : Nat} {l : List Value} (hi : css[i]? = some l) :
    ∃ b off, a = some ⟨b, off, none⟩ ∧ ∀ (w : World), (∀ i o, K i = some o → w.heap[i]? = some o) → ∀ j v, l[j]? = some v → w.cell? ⟨b, off + (i * sz + j), none⟩ = some v := by
  obtain ⟨b, off, cs, T, fz, e, k, c⟩ := h.cells (by intro e; simp [e] at hi)
  refine ⟨b, off, e, fun w hw j v hj => ?_⟩
  simp only [World.cell?, hw _ _ k]
  simpa using c _ _ (flat_at h.len hi j v hj)

/-- A load of an element of a slice that is read; 'c' is asked for the element. -/
theorem load_rd {t k : Nat} {a : Option Addr} {sz : Nat} {css : List (List Value)} {K : Hp} {H : List HProp} {c : Value → Prop} (i o : Nat) (l : List Value) (v : Value) (hr : RdS K a sz css) (ht : tyShape P t = some none)
    (hi : css[i]? = some l) (ho : l[o]? = some v) (hk : k = i * sz + o) (h : c v) : RStepS P (.load t (eptr a k)) K H c := by
  obtain ⟨b, off, rfl, hc⟩ := hr.cell hi
  subst hk
  refine RStepS.mk v (fun Γ w s => ?_) h
  rw [eptr_some]
  simp [M.sem, Instr.loadAt, Instr.sureAddr, run_loadVar_one ht (hc w s.know o v ho)]
theorem load_rd_l {t k : Nat} {a : Option Addr} {sz : Nat} {css : List (List Value)} {d : DrI} {c : Value → Prop} (i o : Nat) (l : List Value) (v : Value) (hr : RdS d.K a sz css) (ht : tyShape P t = some none)
    (hi : css[i]? = some l) (ho : l[o]? = some v) (hk : k = i * sz + o) (h : c v) : LStep P (.load t (eptr a k)) d c := by
  obtain ⟨b, off, rfl, hc⟩ := hr.cell hi
  subst hk
  refine ⟨v, fun w hI => ?_, h⟩
  rw [eptr_some]
  simp [M.sem, Instr.loadAt, Instr.sureAddr, run_loadVar_one ht (hc w hI.1 o v ho)]
theorem load_rd_agg {t k : Nat} {a : Option Addr} {sz : Nat} {css : List (List Value)} {K : Hp} {H : List HProp} {c : Value → Prop} (i : Nat) (l : List Value) (hr : RdS K a sz css) (ht : tyShape P t = some (some sz))
    (hi : css[i]? = some l) (hk : k = i * sz) (h : c (.agg l.toArray)) : RStepS P (.load t (eptr a k)) K H c := by
  have hl := hr.len l (List.mem_of_getElem? hi)
  obtain ⟨b, off, rfl, hc⟩ := hr.cell hi
  subst hk
  refine RStepS.mk _ (fun Γ w s => ?_) h
  rw [eptr_some]
  have := run_loadVar_agg (P := P) (a := ⟨b, off + i * sz, none⟩) (w := w) ht hl (fun j v hj => by rw [addr_add, Nat.add_assoc]; exact hc w s.know j v hj)
  simp [M.sem, Instr.loadAt, Instr.sureAddr, this]
theorem load_rd_agg_l {t k : Nat} {a : Option Addr} {sz : Nat} {css : List (List Value)} {d : DrI} {c : Value → Prop} (i : Nat) (l : List Value) (hr : RdS d.K a sz css) (ht : tyShape P t = some (some sz))
    (hi : css[i]? = some l) (hk : k = i * sz) (h : c (.agg l.toArray)) : LStep P (.load t (eptr a k)) d c := by
  have hl := hr.len l (List.mem_of_getElem? hi)
  obtain ⟨b, off, rfl, hc⟩ := hr.cell hi
  subst hk
  refine ⟨_, fun w hI => ?_, h⟩
  rw [eptr_some]
  have := run_loadVar_agg (P := P) (a := ⟨b, off + i * sz, none⟩) (w := w) ht hl (fun j v hj => by rw [addr_add, Nat.add_assoc]; exact hc w hI.1 j v hj)
  simp [M.sem, Instr.loadAt, Instr.sureAddr, this]

/-! ### owned slices -/
/-- A slice that this code alone can write: it has these elements, from the head of its block on. -/
def OwnA (a : Option Addr) (e sz cap : Nat) (css : List (List Value)) : HProp := fun h =>
  (∀ l ∈ css, l.length = sz) ∧ (∀ l ∈ css, ∀ v ∈ l, v.oneCell' = true) ∧
  ((a = none ∧ cap = 0 ∧ css = []) ∨
   ∃ b cur fz, (fz = (0, 0) ∨ cur.size ≤ fz.1) ∧ a = some ⟨b, 0, none⟩ ∧ h b = some (.cells cur e fz) ∧ cap * sz ≤ cur.size ∧ css.length ≤ cap ∧ cap ≤ maxLen ∧ ∀ (i : Nat) (v : Value), css.flatten[i]? = some v → cur[i]? = some v)

theorem Sat.own {Γ : World} {K : Hp} {a : Option Addr} {e sz cap : Nat} {css : List (List Value)} {H : List HProp} {w : World} (s : Sat Γ K (OwnA a e sz cap css :: H) w) :
    (∀ l ∈ css, l.length = sz) ∧ (∀ l ∈ css, ∀ v ∈ l, v.oneCell' = true) ∧ ((a = none ∧ cap = 0 ∧ css = [] ∧ Sat Γ K H w) ∨
      ∃ b cur fz, (fz = (0, 0) ∨ cur.size ≤ fz.1) ∧ a = some ⟨b, 0, none⟩ ∧ cap * sz ≤ cur.size ∧ css.length ≤ cap ∧ cap ≤ maxLen ∧ (∀ (i : Nat) (v : Value), css.flatten[i]? = some v → cur[i]? = some v) ∧ Sat Γ K (Blk b (.cells cur e fz) :: H) w) := by
  obtain ⟨h, d, ⟨h1, h2, d12, l1, l2, ⟨hl, ho, hA⟩, rest⟩, y⟩ := s.heap
  refine ⟨hl, ho, ?_⟩
  rcases hA with ⟨rfl, rfl, rfl⟩ | ⟨b, cur, fz, hfz, rfl, hb, g1, g2, g3, g4⟩
  · exact .inl ⟨rfl, rfl, rfl, s.drop⟩
  · exact .inr ⟨b, cur, fz, hfz, rfl, g1, g2, g3, g4, s.os, s.tape, s.output, s.know, h, d, ⟨h1, h2, d12, l1, l2, hb, rest⟩, y⟩
theorem Sat.mkOwnF {Γ : World} {K : Hp} {b e sz cap : Nat} {cur : Array Value} {fz : Nat × Nat} {css : List (List Value)} {H : List HProp} {w : World} (s : Sat Γ K (Blk b (.cells cur e fz) :: H) w) (hfz : fz = (0, 0) ∨ cur.size ≤ fz.1)
    (h1 : ∀ l ∈ css, l.length = sz) (h2 : ∀ l ∈ css, ∀ v ∈ l, v.oneCell' = true) (g1 : cap * sz ≤ cur.size) (g2 : css.length ≤ cap) (g3 : cap ≤ maxLen) (g4 : ∀ (i : Nat) (v : Value), css.flatten[i]? = some v → cur[i]? = some v) :
    Sat Γ K (OwnA (some ⟨b, 0, none⟩) e sz cap css :: H) w :=
  s.conv fun h ⟨x1, x2, d, l1, l2, hb, rest⟩ => ⟨x1, x2, d, l1, l2, ⟨h1, h2, .inr ⟨b, cur, fz, hfz, rfl, hb, g1, g2, g3, g4⟩⟩, rest⟩
theorem Sat.mkOwn {Γ : World} {K : Hp} {b e sz cap : Nat} {cur : Array Value} {css : List (List Value)} {H : List HProp} {w : World} (s : Sat Γ K (Blk b (.cells cur e (0, 0)) :: H) w)
    (h1 : ∀ l ∈ css, l.length = sz) (h2 : ∀ l ∈ css, ∀ v ∈ l, v.oneCell' = true) (g1 : cap * sz ≤ cur.size) (g2 : css.length ≤ cap) (g3 : cap ≤ maxLen) (g4 : ∀ (i : Nat) (v : Value), css.flatten[i]? = some v → cur[i]? = some v) :
    Sat Γ K (OwnA (some ⟨b, 0, none⟩) e sz cap css :: H) w := s.mkOwnF (.inl rfl) h1 h2 g1 g2 g3 g4
theorem Sat.mkNil {Γ : World} {K : Hp} {e sz : Nat} {H : List HProp} {w : World} (s : Sat Γ K H w) : Sat Γ K (OwnA none e sz 0 [] :: H) w :=
  s.conv fun h hl => ⟨fun _ => none, h, fun _ => .inl rfl, Hp.emp_le _, .refl _, ⟨fun _ h => (by cases h), fun _ h => (by cases h), .inl ⟨rfl, rfl, rfl⟩⟩, hl⟩

/-- What is appended. -/
structure SrcOK (P : Program) (K : Hp) (H : List HProp) (sz tx : Nat) (x : Value) (news : List (List Value)) : Prop where
  src : ∀ Γ w, Sat Γ K H w → Src P sz tx x news.length news.flatten w
  len : ∀ l ∈ news, l.length = sz
  one : ∀ l ∈ news, ∀ v ∈ l, v.oneCell' = true

theorem flat_len : ∀ {css : List (List Value)} {sz : Nat}, (∀ l ∈ css, l.length = sz) → css.flatten.length = css.length * sz
  | [], sz, _ => by simp
  | l :: css, sz, h => by
    have ih := flat_len (css := css) (sz := sz) (fun l h' => h l (List.mem_cons_of_mem _ h'))
    simp only [List.flatten_cons, List.length_append, List.length_cons, h l (by simp), ih, Nat.succ_mul]
    omega

theorem src_rd {K : Hp} {H : List HProp} {sz tx e' cap n : Nat} {a : Option Addr} {css : List (List Value)} (ht : P.underlying tx = some (.slice e')) (hr : RdS K a sz css) (hn : n = css.length) : SrcOK P K H sz tx (.slice a n cap) css := by
  subst hn
  refine ⟨fun Γ w s => ?_, hr.len, hr.one⟩
  have hfl := flat_len hr.len
  have hone : ∀ u ∈ css.flatten, u.oneCell' = true := fun u hu => by
    obtain ⟨l, hl, hu⟩ := List.mem_flatten.1 hu
    exact hr.one l hl u hu
  by_cases hn : css = []
  · subst hn
    cases a with
    | none => exact Src.ofNil w ht cap
    | some ad => exact Src.ofSlice w ht ad 0 cap [] (by simp) (by simp) (by simp)
  · obtain ⟨b, off, cs, T, fz, rfl, k, c⟩ := hr.cells hn
    exact Src.ofSlice w ht _ _ cap _ hfl (fun j u hu => by
      rw [addr_add]
      simp only [World.cell?, s.know _ _ k]
      simpa using c j u hu) hone
theorem src_cells {K : Hp} {H H' : List HProp} {sz tx e' cap b T : Nat} {cs : List Value} (ht : P.underlying tx = some (.slice e')) (hr : Rem (Cells b T cs) H H') (hl : cs.length = sz) (ho : allOne cs = true) :
    SrcOK P K H sz tx (.slice (some ⟨b, 0, none⟩) 1 cap) [cs] := by
  refine ⟨fun Γ w s => ?_, by simpa using hl, fun l h v hv => by simp at h; subst h; exact allOne_spec ho v hv⟩
  have hb := (s.rem hr).blk
  refine Src.ofSlice w ht _ _ cap _ (by simpa using hl) (fun j u hu => ?_) (fun u hu => allOne_spec ho u (by simpa using hu))
  rw [addr_add, cell_blk hb]
  simpa using hu
theorem flat_single : ∀ (l : List UInt8), (l.map fun b => [Value.int .u8 b.toNat]).flatten = l.map fun b => Value.int .u8 b.toNat
  | [] => rfl
  | x :: l => by simp [flat_single l]
theorem src_str {K : Hp} {H : List HProp} {tx : Nat} {l : List UInt8} (ht : P.underlying tx = some .string) : SrcOK P K H 1 tx (str l) (l.map fun b => [Value.int .u8 b.toNat]) := by
  refine ⟨fun Γ w s => ?_, by simp, by simp; intro a _; rfl⟩
  have := Src.ofString (P := P) w ht ⟨l.toArray⟩
  have e1 : (⟨l.toArray⟩ : ByteArray).size = (l.map fun b => [Value.int .u8 b.toNat]).length := by simp [ByteArray.size]
  have e2 : byteCells ⟨l.toArray⟩ = (l.map fun b => [Value.int .u8 b.toNat]).flatten := by
    rw [flat_single]; rfl
  rw [e1, e2] at this
  exact this
theorem src_nil {K : Hp} {H : List HProp} {sz tx e' cap : Nat} (ht : P.underlying tx = some (.slice e')) : SrcOK P K H sz tx (.slice none 0 cap) [] :=
  ⟨fun Γ w s => Src.ofNil w ht cap, by simp, by simp⟩
theorem src_own {K : Hp} {H H' : List HProp} {sz tx e' e cap n : Nat} {a : Option Addr} {css : List (List Value)} (ht : P.underlying tx = some (.slice e')) (hr : Rem (OwnA a e sz cap css) H H') (hn : n = css.length)
    (h1 : ∀ l ∈ css, l.length = sz) (h2 : ∀ l ∈ css, ∀ v ∈ l, v.oneCell' = true) : SrcOK P K H sz tx (.slice a n cap) css := by
  subst hn
  refine ⟨fun Γ w s => ?_, h1, h2⟩
  obtain ⟨g1, g2, ⟨rfl, rfl, rfl, _⟩ | ⟨b, cur, fz, hfz, rfl, k1, k2, k3, k4, s'⟩⟩ := (s.rem hr).own
  · exact Src.ofNil w ht 0
  · refine Src.ofSlice w ht _ _ cap _ (flat_len g1) (fun j u hu => ?_) (fun u hu => ?_)
    · rw [addr_add]
      simp only [World.cell?, s'.blk]
      simpa using k4 j u hu
    · obtain ⟨l, hl, hu⟩ := List.mem_flatten.1 hu
      exact g2 l hl u hu

def tyBytes (P : Program) (t : TypeId) : Option Nat := (P.info? t).map (·.bytes)

theorem splice_get : ∀ (off : Nat) (vs l : List Value) (i : Nat), off + vs.length ≤ l.length → (splice off vs l)[i]? = if i < off then l[i]? else if i < off + vs.length then vs[i - off]? else l[i]?
  | 0, [], l, i, _ => by cases l <;> simp [splice]
  | 0, v :: vs, [], i, h => by simp at h
  | 0, v :: vs, x :: l, i, h => by
    cases i with
    | zero => simp [splice]
    | succ i =>
      simp only [splice, List.getElem?_cons_succ]
      rw [splice_get 0 vs l i (by simp at h ⊢; omega)]
      simp
  | off + 1, vs, [], i, h => by simp at h
  | off + 1, vs, x :: l, i, h => by
    cases i with
    | zero => simp [splice]
    | succ i =>
      simp only [splice, List.getElem?_cons_succ]
      rw [splice_get off vs l i (by simp at h ⊢; omega)]
      simp [Nat.succ_add]
theorem splice_len : ∀ (off : Nat) (vs l : List Value), (splice off vs l).length = l.length ∨ l.length < off + vs.length
  | 0, [], l => by cases l <;> simp [splice]
  | 0, v :: vs, [] => by simp
  | 0, v :: vs, x :: l => by rcases splice_len 0 vs l with h | h <;> simp [splice] <;> omega
  | off + 1, vs, [] => by simp; omega
  | off + 1, vs, x :: l => by rcases splice_len off vs l with h | h <;> simp [splice] <;> omega

/-- append onto a slice of one's own. -/
theorem append_run {Γ : World} {K : Hp} {t tx e ty sz bytes cap : Nat} {z : Value} {a : Option Addr} {x : Value} {css news : List (List Value)} {H : List HProp} {w : World} (s : Sat Γ K (OwnA a e sz cap css :: H) w)
    (ht : P.underlying t = some (.slice e)) (hsz : tySize P e = some sz) (hz : tyZeroV P e = some z) (hzs : z.cells.size = sz) (hpos : 0 < sz) (hby : tyBytes P e = some bytes)
    (hs : SrcOK P K H sz tx x news) (h63 : css.length + news.length ≤ maxLen) (hb : (css.length + news.length) * bytes ≤ 140737488355328) :
    ∃ a' cap' w', (Builtin.append_ #[t, tx] ty #[.slice a css.length cap, x]).run P w = .ok (.slice a' (css.length + news.length) cap') w' ∧ Sat Γ K (OwnA a' e sz cap' (css ++ news) :: H) w' ∧ (0 < css.length + news.length → Has a') := by
  obtain ⟨hl, ho, hA⟩ := s.own
  obtain ⟨i, hi, hisz⟩ : ∃ i, P.info? e = some i ∧ i.size = sz := by
    unfold tySize at hsz
    cases h : P.info? e with
    | none => simp [h] at hsz
    | some i => simp [h] at hsz; exact ⟨i, rfl, hsz⟩
  have hiz : i.zero = some z := by
    unfold tyZeroV at hz
    simp only [hi, Option.map_some] at hz
    cases h : i.zero with
    | none => simp [h] at hz
    | some z' => simp [h] at hz; rw [hz]
  have hib : i.bytes = bytes := by unfold tyBytes at hby; simpa [hi] using hby
  have hsrc := hs.src Γ w (s.drop)
  have hml : maxLen = 9223372036854775807 := by decide
  have hlall : ∀ l ∈ css ++ news, l.length = sz := fun l h => by rcases List.mem_append.1 h with h | h; exact hl l h; exact hs.len l h
  have hoall : ∀ l ∈ css ++ news, ∀ v ∈ l, v.oneCell' = true := fun l h => by rcases List.mem_append.1 h with h | h; exact ho l h; exact hs.one l h
  have hfl := flat_len hl
  have hfn := flat_len hs.len
  -- a new row
  have grow : ∀ (base : Option Addr) (H0 : Sat Γ K H w) (hold : (Builtin.firstCells i.size css.length (.slice base css.length cap)).run P w.drew = .ok css.flatten.toArray w.drew) (hg : cap < css.length + news.length),
      ∃ a' cap' w', (Builtin.append_ #[t, tx] ty #[.slice base css.length cap, x]).run P w = .ok (.slice a' (css.length + news.length) cap') w' ∧ Sat Γ K (OwnA a' e sz cap' (css ++ news) :: H) w' ∧ (0 < css.length + news.length → Has a') := by
    intro base H0 hold hg
    have hfit := growslice_fits (bytes := i.bytes) hg (by rw [hib]; exact hb)
    have hr := run_append_grow_src (P := P) w t tx ty e i z ht hi hiz base css.length cap css.flatten hold x news.length news.flatten (by rw [hisz]; exact hsrc) hg (by omega) hfit
    have hge := grownCap_ge w (css.length + news.length) cap e
    have hcm := grownCap_le_maxLen w (css.length + news.length) cap e h63
    refine ⟨_, _, _, hr, ?_, fun _ => ⟨_, _, rfl⟩⟩
    refine (Sat.push (w := w.drew) H0.drew).mkOwn hlall hoall ?_ (by simpa using hge) hcm ?_
    · simp only [Array.size_append, List.size_toArray, List.length_append, size_zeroCells, hzs, hfl, hfn, ← Nat.add_mul]
      exact Nat.le_of_eq (by congr 1; omega)
    · intro j v hj
      have hlt : j < (css ++ news).flatten.length := (List.getElem?_eq_some_iff.1 hj).1
      rw [Array.getElem?_append_left (by simpa using hlt)]
      simpa using hj
  rcases hA with ⟨rfl, rfl, rfl, s0⟩ | ⟨b, cur, fz, hfz, rfl, k1, k2, k3, k4, s0⟩
  · by_cases hn : news = []
    · subst hn
      refine ⟨none, 0, w, ?_, by simpa using s0.mkNil, fun h => by simp at h⟩
      have hroom : (0 : Nat) + 0 ≤ 0 := by omega
      have hlen := hsrc.len
      have hcl := hsrc.cells
      rcases hsrc.kind with ⟨e', hk⟩ | hk
      · simp only [List.length_nil, List.flatten_nil] at hlen hcl ⊢
        simp [Builtin.append_, run_underlying ht, run_underlying hk, run_sizeOf' hsz, hlen w, hcl]
      · simp only [List.length_nil, List.flatten_nil] at hlen hcl ⊢
        simp [Builtin.append_, run_underlying ht, run_underlying hk, run_sizeOf' hsz, hlen w, hcl]
    · have hpos' : 0 < news.length := List.length_pos_iff.2 hn
      exact grow none s0 (by simp [Builtin.firstCells]) (by simpa using hpos')
  · by_cases hroom : css.length + news.length ≤ cap
    · obtain ⟨w', hst, hs'⟩ := Sat.storeCellsF (P := P) (b := b) (T := e) (fz := fz) news.flatten (css.length * sz) 0 cur.toList w (by simpa using s0) (by
        simp only [Nat.add_zero, hfn, Array.length_toList, ← Nat.add_mul]
        exact Nat.le_trans (Nat.mul_le_mul_right _ hroom) k1) (fun v hv => by
          obtain ⟨l, hl', hv⟩ := List.mem_flatten.1 hv
          exact hs.one l hl' v hv) (by simpa using hfz)
      refine ⟨some ⟨b, 0, none⟩, cap, w', ?_, ?_, fun _ => ⟨_, _, rfl⟩⟩
      · have hlen := hsrc.len
        have hcl := hsrc.cells
        rcases hsrc.kind with ⟨e', hk⟩ | hk <;>
          simp [Builtin.append_, run_underlying ht, run_underlying hk, run_sizeOf' hsz, hlen w, hroom, hcl, addr_add, hst]
      · have hle : css.length * sz + 0 + news.flatten.length ≤ cur.toList.length := by
          simp only [Nat.add_zero, hfn, Array.length_toList, ← Nat.add_mul]
          exact Nat.le_trans (Nat.mul_le_mul_right _ hroom) k1
        refine hs'.mkOwnF ?_ hlall hoall ?_ (by simpa using hroom) k3 ?_
        · rcases hfz with h | h
          · exact .inl h
          · rcases splice_len (css.length * sz + 0) news.flatten cur.toList with h' | h'
            · right; rw [show (splice (css.length * sz + 0) news.flatten cur.toList).toArray.size = cur.toList.length from by simpa using h']; simpa using h
            · omega
        · rcases splice_len (css.length * sz + 0) news.flatten cur.toList with h | h
          · rw [show (splice (css.length * sz + 0) news.flatten cur.toList).toArray.size = cur.size from by simpa using h]; exact k1
          · omega
        · intro j v hj
          rw [List.getElem?_toArray, splice_get _ _ _ _ hle]
          simp only [List.flatten_append] at hj
          rw [List.getElem?_append, hfl] at hj
          simp only [Nat.add_zero]
          split at hj
          · rename_i h1; rw [if_pos h1]; simpa using k4 j v (by rw [hj])
          · rename_i h1
            rw [if_neg h1, if_pos (by have := (List.getElem?_eq_some_iff.1 hj).1; omega)]
            exact hj
    · refine grow (some ⟨b, 0, none⟩) s0.drop ?_ (by omega)
      have : ∀ j u, css.flatten[j]? = some u → w.drew.cell? ((⟨b, 0, none⟩ : Addr).add j) = some u := fun j u hu => by
        have h1 := s0.blk
        have h2 : w.drew.heap[b]? = some (.cells cur e fz) := h1
        rw [addr_add]
        simp only [World.cell?, h2]
        simpa using k4 j u hu
      exact run_firstCells_some w.drew i.size css.length ⟨b, 0, none⟩ css.length cap css.flatten (by rw [hfl, hisz]) this

theorem append_rule {K : Hp} {t tx e ty sz bytes cap n : Nat} {z : Value} {a : Option Addr} {x : Value} {css news : List (List Value)} {H H' : List HProp} {cs : Array Bool} {c : VP} (hr : Rem (OwnA a e sz cap css) H H')
    (hn : n = css.length) (ht : P.underlying t = some (.slice e)) (hsz : tySize P e = some sz) (hz : tyZeroV P e = some z) (hzs : z.cells.size = sz) (hpos : 0 < sz) (hby : tyBytes P e = some bytes)
    (hs : SrcOK P K H' sz tx x news) (hb : (css.length + news.length) * bytes ≤ 140737488355328) (h63 : css.length + news.length ≤ 9223372036854775807)
    (h : ∀ a' cap', (0 < css.length + news.length → Has a') → c (.slice a' (css.length + news.length) cap') K (OwnA a' e sz cap' (css ++ news) :: H')) :
    WStep P (.builtin .append #[t, tx] ty cs [.slice a n cap, x]) K H c := by
  subst hn
  refine ⟨fun Γ w s => ?_⟩
  obtain ⟨a', cap', w', h1, h2, h3⟩ := append_run (ty := ty) (s.rem hr) ht hsz hz hzs hpos hby hs (by simp only [maxLen]; omega) hb
  exact ⟨_, w', _, K, _, by simp [M.sem, Go.builtin, h1], .inl rfl, h2, h a' cap' h3⟩
theorem append_nil {K : Hp} {t tx e ty sz bytes : Nat} {z : Value} {x : Value} {news : List (List Value)} {H : List HProp} {cs : Array Bool} {c : VP}
    (ht : P.underlying t = some (.slice e)) (hsz : tySize P e = some sz) (hz : tyZeroV P e = some z) (hzs : z.cells.size = sz) (hpos : 0 < sz) (hby : tyBytes P e = some bytes)
    (hs : SrcOK P K H sz tx x news) (hb : news.length * bytes ≤ 140737488355328) (h63 : news.length ≤ 9223372036854775807)
    (h : ∀ a' cap', (0 < news.length → Has a') → c (.slice a' news.length cap') K (OwnA a' e sz cap' news :: H)) :
    WStep P (.builtin .append #[t, tx] ty cs [.slice none 0 0, x]) K H c := by
  refine ⟨fun Γ w s => ?_⟩
  obtain ⟨a', cap', w', h1, h2, h3⟩ := append_run (ty := ty) (css := []) (s.mkNil (e := e) (sz := sz)) ht hsz hz hzs hpos hby hs (by simp only [maxLen, List.length_nil]; omega) (by simpa using hb)
  simp only [List.length_nil, Nat.zero_add, List.nil_append] at h1 h2 h3
  exact ⟨_, w', _, K, _, by simp [M.sem, Go.builtin, h1], .inl rfl, h2, h a' cap' h3⟩

theorem len_slice {t e ty n cap : Nat} {a : Option Addr} {cs : Array Bool} {K : Hp} {H : List HProp} {c : Value → Prop} (ht : P.underlying t = some (.slice e)) (h : c (.int .i64 n)) : RStepS P (.builtin .len #[t] ty cs [.slice a n cap]) K H c :=
  RStepS.mk _ (fun Γ w s => by simp [M.sem, Go.builtin, Builtin.len_, run_underlying ht, goInt]) h
theorem len_sliceN {t e ty n cap : Nat} {a : Option Addr} {cs : Array Bool} {c : Value → Prop} (ht : P.underlying t = some (.slice e)) (h : c (.int .i64 n)) : NStep P (.builtin .len #[t] ty cs [.slice a n cap]) c :=
  NStep.mk _ (fun w => by simp [M.sem, Go.builtin, Builtin.len_, run_underlying ht, goInt]) h
theorem len_strN {t ty : Nat} {l : List UInt8} {cs : Array Bool} {c : Value → Prop} (ht : P.underlying t = some .string) (h : c (.int .i64 l.length)) : NStep P (.builtin .len #[t] ty cs [str l]) c :=
  NStep.mk _ (fun w => by simp [M.sem, Go.builtin, Builtin.len_, run_underlying ht]; simp [goInt, ByteArray.size]) h
theorem len_str {t ty : Nat} {l : List UInt8} {cs : Array Bool} {K : Hp} {H : List HProp} {c : Value → Prop} (ht : P.underlying t = some .string) (h : c (.int .i64 l.length)) : RStepS P (.builtin .len #[t] ty cs [str l]) K H c :=
  RStepS.mk _ (fun Γ w s => by simp [M.sem, Go.builtin, Builtin.len_, run_underlying ht]; simp [goInt, ByteArray.size]) h

/-- An owned slice is let go of: from now on it is read alone. -/
theorem Sat.ownFreeze {Γ : World} {K : Hp} {a : Option Addr} {e sz cap : Nat} {css : List (List Value)} {H : List HProp} {w : World} (s : Sat Γ K (OwnA a e sz cap css :: H) w) : ∃ K' : Hp, K.Le K' ∧ RdS K' a sz css ∧ Sat Γ K' H w := by
  obtain ⟨hl, ho, ⟨rfl, rfl, rfl, s0⟩ | ⟨b, cur, fz, hfz, rfl, k1, k2, k3, k4, s0⟩⟩ := s.own
  · exact ⟨K, .refl _, .nil, s0⟩
  · obtain ⟨K', h1, h2, h3⟩ := s0.freeze
    exact ⟨K', h1, ⟨hl, ho, fun _ => ⟨b, 0, cur.toList.toArray, e, fz, rfl, by simpa using h2, fun i v hv => by simpa using k4 i v hv⟩⟩, h3⟩
theorem Sat.cellsFreeze {Γ : World} {K : Hp} {b T : Nat} {cs : List Value} {H : List HProp} {w : World} (s : Sat Γ K (Cells b T cs :: H) w) (css : List (List Value)) (sz : Nat) (hf : css.flatten = cs) (hl : ∀ l ∈ css, l.length = sz) (ho : allOne cs = true) :
    ∃ K' : Hp, K.Le K' ∧ RdS K' (some ⟨b, 0, none⟩) sz css ∧ Sat Γ K' H w := by
  obtain ⟨K', h1, h2, h3⟩ := s.freeze
  refine ⟨K', h1, ⟨hl, fun l hl' v hv => allOne_spec ho v (by rw [← hf]; exact List.mem_flatten.2 ⟨l, hl', hv⟩), fun _ => ⟨b, 0, cs.toArray, T, (0, 0), rfl, h2, fun i v hv => by simpa [← hf] using hv⟩⟩, h3⟩

/-- A step may be taken from whatever the heaplets give. -/
theorem CStep.conv {root : Code} {n : Nat} {p : List Nat} {env : List Value} {K : Hp} {H : List HProp} {Q : Exit → KP} (h : ∀ Γ w, Sat Γ K H w → ∃ K' H', Sat Γ K' H' w ∧ CStep P root n p env K' H' Q) : CStep P root n p env K H Q :=
  ⟨CodeStep.mk fun Γ w s => let ⟨K', H', s', h'⟩ := h Γ w s; h'.out.elim Γ w s'⟩
theorem WStep.conv {m : M} {K : Hp} {H : List HProp} {c : VP} (h : ∀ Γ w, Sat Γ K H w → ∃ K' H', Sat Γ K' H' w ∧ WStep P m K' H' c) : WStep P m K H c := by
  exact ⟨fun Γ w s => let ⟨K', H', s', h'⟩ := h Γ w s; h'.elim Γ w s'⟩
theorem CallStep.conv {f : FuncId} {args : List Value} {K : Hp} {H : List HProp} {c : VP} (hf : ∀ a w, (callFunc f a).run P w = .ok (.enter f a) w) (h : ∀ Γ w, Sat Γ K H w → ∃ K' H', Sat Γ K' H' w ∧ CallStep P f args K' H' c) : CallStep P f args K H c := by
  exact ⟨hf, fun Γ w s => let ⟨K', H', s', h'⟩ := h Γ w s; h'.elim.2 Γ w s'⟩
theorem EndStep.conv {K0 : Hp} {F : HProp} {R : VP} {v : Value} {K : Hp} {H : List HProp} (h : ∀ Γ w, Sat Γ K H w → ∃ K' H', Sat Γ K' H' w ∧ EndStep K0 F R v K' H') : EndStep K0 F R v K H := by
  exact ⟨fun Γ w s => let ⟨K', H', s', h'⟩ := h Γ w s; h'.elim Γ w s'⟩
theorem RStep.conv {m : M} {K : Hp} {H : List HProp} {c : Value → Prop} (h : ∀ Γ w, Sat Γ K H w → ∃ K' H', Sat Γ K' H' w ∧ RStep P m K' H' c) : RStep P m K H c := by
  exact ⟨fun Γ w s => let ⟨K', H', s', h'⟩ := h Γ w s; h'.elim Γ w s'⟩
end
end Go.SL
