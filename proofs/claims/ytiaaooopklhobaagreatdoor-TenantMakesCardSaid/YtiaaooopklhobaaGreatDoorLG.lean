/- The library: facts about walks, over any program. -/
import Derived.Test.YtiaaooopklhobaaGreatDoorLF
import Derived.Lib.ConvBytes
import Derived.Laws.BytesString
set_option linter.unusedVariables false
set_option linter.unusedSimpArgs false
set_option linter.unusedSectionVars false
namespace Go.SL
open Go
section
variable {P : Program} {K : Hp} {H H' : List HProp} {α : Type} {enc : α → List Value} {a : Option Addr} {t tx e ty sz cap : Nat} {l new : List α} {cs : Array Bool} {c : Value → Prop}
theorem qje : ∀ (l : List UInt8) (r : ByteArray), (l.map fun b : UInt8 => (b.toNat : Int)).foldl (fun r n => r.push (UInt8.ofNat n.toNat)) r = ⟨r.data ++ l.toArray⟩
 | [], r => by simp
 | b :: l, r => by
  have e : UInt8.ofNat ((b.toNat : Int)).toNat = b := by simp
  rw [List.map_cons, List.foldl_cons, e, qje l]
  simp [ByteArray.push]
theorem qpd {w : World} {a : Addr} {cap : Nat} {l : Str} (h : ∀ j v, (l.map fun b : UInt8 => Value.int .u8 (b.toNat : Int))[j]? = some v → w.cell? (a.add j) = some v) :
  (Conv.bytesToString (.slice (some a) l.length cap)).run P w = .ok (str l) w := by
 have h1 := run_loadCells_list (P := P) w a (l.map fun b : UInt8 => Value.int .u8 (b.toNat : Int)) h
 rw [List.length_map] at h1
 have h2 := run_bytesToString (P := P) w a l.length cap (l.map fun b : UInt8 => (b.toNat : Int)) (by rw [h1]; simp [Function.comp_def])
 rw [h2, qje]
 simp [str]
theorem quw {src dst e e' : TypeId} {l : Str} (hr : Rem (OwnL eU a e' 1 cap l) H H') (hs : P.underlying src = some (.slice e)) (he : P.underlying e = some (.int .u8)) (hd : P.underlying dst = some .string) (h : c (str l)) :
  RStepS P (.conv src dst (.slice a l.length cap)) K H c := by
 refine RStepS.mk _ (fun Γ w s => ?_) h
 obtain ⟨hl, ho, ⟨rfl, rfl, hn, _⟩ | ⟨b, cur, fz, hfz, rfl, k1, k2, k3, k4, s0⟩⟩ := (s.rem hr).own
 ·have hn : l = [] := by simpa using hn
  subst hn
  simp [M.sem, convert, run_underlying hs, run_underlying hd, run_underlying he, Conv.bytesToString]; rfl
 ·have := qpd (P := P) (w := w) (a := ⟨b, 0, none⟩) (cap := cap) (l := l) (fun j v hj => by
   rw [qbj]
   simp only [World.cell?, s0.blk]
   simpa using k4 j v (by rw [qfg]; exact hj))
  simp [M.sem, convert, run_underlying hs, run_underlying hd, run_underlying he, this]
theorem qhm {src dst e : TypeId} {s : Str} {c : VP} (hs : P.underlying src = some .string) (hd : P.underlying dst = some (.slice e)) (he : P.underlying e = some (.int .u8)) (hl : s.length ≤ lim)
  (h : ∀ a cap, (0 < s.length → Has a) → c (.slice a s.length cap) K (OwnL eU a e 1 cap s :: H)) : WStep P (.conv src dst (str s)) K H c := by
 refine ⟨fun Γ w x => ?_⟩
 have hrun := Lib.run_convert_string_bytes (P := P) w src dst e ⟨s.toArray⟩ hs hd he
 have hsz : (⟨s.toArray⟩ : ByteArray).size = s.length := by simp [ByteArray.size]
 rw [hsz] at hrun
 have hge := grownCap_ge w s.length 0 e
 have hle := grownCap_le_maxLen w s.length 0 e (by simp only [lim] at hl; simp only [maxLen]; omega)
 refine ⟨_, Lib.bytesWorld w e ⟨s.toArray⟩, .slice (some ⟨w.heap.size, 0, none⟩) s.length (grownCap w s.length 0 e), K, _, ?_, .inl rfl, ?_, h _ _ (fun _ => ⟨_, _, rfl⟩)⟩
 ·simp only [M.sem, Sem.run_bind, hrun]; rfl
 ·have hnew := Lib.bytesWorld_at_new w e ⟨s.toArray⟩
  have x' : Sat Γ K (Blk w.heap.size (.cells (Lib.bytesCells w e ⟨s.toArray⟩) e ((Lib.bytesCells w e ⟨s.toArray⟩).size, (Lib.bytesCells w e ⟨s.toArray⟩).size + 1)) :: H) (Lib.bytesWorld w e ⟨s.toArray⟩) := by
   refine x.new ?_ ?_ ?_ (by simp) hnew fun i hi => ?_
   ·simp [Lib.bytesWorld, World.freeze, World.alloc, World.drew, -World.alloc_eq, -World.drew_eq]
   ·simp [Lib.bytesWorld, World.freeze, World.alloc, World.drew, -World.alloc_eq, -World.drew_eq]
   ·simp [Lib.bytesWorld, World.freeze, World.alloc, World.drew, -World.alloc_eq, -World.drew_eq]
   ·rcases Nat.lt_or_ge i w.heap.size with hlt | hge
    ·exact Lib.bytesWorld_at_old w e _ i hlt
    ·have h1 : (Lib.bytesWorld w e ⟨s.toArray⟩).heap.size ≤ i := by rw [Lib.bytesWorld_size]; omega
     rw [Array.getElem?_eq_none h1, Array.getElem?_eq_none hge]
  refine x'.mkOwnF (.inr (Nat.le_refl _)) (by simp) (by simp; intro a _; rfl) ?_ (by simpa using hge) hle ?_
  ·simp [Lib.bytesCells, hsz]; omega
  ·intro i v hv
   rw [qfg] at hv
   have hlt : i < s.length := by have := (List.getElem?_eq_some_iff.1 hv).1; simpa using this
   simp only [Lib.bytesCells]
   rw [Array.getElem?_append_left (by simpa using hlt)]
   simpa using hv
theorem qf2 {x : Int} {y : Nat} {code : BoundsCode} (h0 : 0 ≤ x) (h1 : x ≤ y) (w : World) : (Instr.sliceBound (.int .i64 x) y code).run P w = .ok x.toNat w := by
 simp [Instr.sliceBound, asIntOf, h0, h1]
def loI : Option Int → Int | some x => x | none => 0
def hiI (n : Nat) : Option Int → Int | some x => x | none => n
def vI : Option Int → Option Value | some x => some (.int .i64 x) | none => none
theorem qjf {isS : Bool} {len cap : Nat} {lo hi : Option Int} (h0 : 0 ≤ loI lo) (h1 : loI lo ≤ hiI len hi) (h2 : hiI len hi ≤ len) (hc : len ≤ cap) (w : World) :
  (Instr.sliceBounds isS len cap (vI lo) (vI hi) none).run P w = .ok ((loI lo).toNat, (hiI len hi).toNat, cap) w := by
 cases lo with
 | none =>
  cases hi with
  | none => simp [Instr.sliceBounds, vI, loI, hiI]
  | some x =>
   simp only [loI, hiI] at h0 h1 h2
   have := qf2 (P := P) (x := x) (y := cap) (code := if isS then .sliceAcap else .sliceAlen) h1 (by omega) w
   simp [Instr.sliceBounds, vI, this, loI, hiI]
 | some y =>
  cases hi with
  | none =>
   simp only [loI, hiI] at h0 h1 h2
   have := qf2 (P := P) (x := y) (y := len) (code := .sliceB) h0 (by omega) w
   simp [Instr.sliceBounds, vI, this, loI, hiI]
  | some x =>
   simp only [loI, hiI] at h0 h1 h2
   have e1 := qf2 (P := P) (x := x) (y := cap) (code := if isS then .sliceAcap else .sliceAlen) (by omega) (by omega) w
   have e2 := qf2 (P := P) (x := y) (y := x.toNat) (code := .sliceB) h0 (by omega) w
   simp [Instr.sliceBounds, vI, e1, e2, loI, hiI]
abbrev subL (l : List α) (lo hi : Int) : List α := (l.drop lo.toNat).take (hi - lo).toNat
theorem qek {s : Str} {lo hi : Option Int} (ht : P.underlying t = some .string) (hb : 0 ≤ loI lo ∧ loI lo ≤ hiI s.length hi ∧ hiI s.length hi ≤ s.length)
  (h : c (str (subL s (loI lo) (hiI s.length hi)))) : NStep P (.slice t (str s) (vI lo) (vI hi) none) c :=
 NStep.mk _ (fun w => by
  have hsz : (⟨s.toArray⟩ : ByteArray).size = s.length := by simp [ByteArray.size]
  have := qjf (P := P) (isS := false) (len := s.length) (cap := s.length) hb.1 hb.2.1 hb.2.2 (Nat.le_refl _) w
  simp only [M.sem, Instr.sliceAt, Instr.slice, Sem.run_bind, run_underlying ht, Result.andThen_ok, str, hsz]
  simp only [Option.isSome_none, Bool.false_eq_true, if_false, Sem.run_bind]
  rw [this]
  simp only [Sem.run_pure, Result.andThen_ok]
  congr 3
  apply ByteArray.ext
  simp [subL, List.drop_take]
  omega) h
def subA (a : Option Addr) (cap lo sz : Nat) : Option Addr := if cap = lo then a else a.map (·.add (lo * sz))
theorem RdS.sub {css : List (List Value)} (hr : RdS K a sz css) {lo n cap : Nat} (hcap : lo + n ≤ css.length) (hle : css.length ≤ cap) : RdS K (subA a cap lo sz) sz ((css.drop lo).take n) := by
 have hmem : ∀ m ∈ (css.drop lo).take n, m ∈ css := fun m h => List.mem_of_mem_drop (List.mem_of_mem_take h)
 refine ⟨fun m h => hr.len m (hmem m h), fun m h => hr.one m (hmem m h), fun hne => ?_⟩
 have hn : 0 < ((css.drop lo).take n).length := List.length_pos_iff.2 hne
 simp only [List.length_take, List.length_drop] at hn
 obtain ⟨b, off, cs, T, fz, rfl, k, hc⟩ := hr.cells (by intro e; simp [e] at hn)
 refine ⟨b, off + lo * sz, cs, T, fz, ?_, k, fun i v hv => ?_⟩
 ·unfold subA; rw [qx1 (by omega)]; simp [qbj]
 ·rw [Nat.add_assoc]
  refine hc _ v ?_
  have hl1 : ∀ m ∈ css.take lo, m.length = sz := fun m h => hr.len m (List.mem_of_mem_take h)
  have hl2 : ∀ m ∈ (css.drop lo).take n, m.length = sz := fun m h => hr.len m (hmem m h)
  have e : css = css.take lo ++ ((css.drop lo).take n ++ (css.drop lo).drop n) := by rw [List.take_append_drop, List.take_append_drop]
  have hf1 := qb8 hl1
  have e1 : (css.take lo).length = lo := by simp; omega
  rw [e1] at hf1
  rw [e, List.flatten_append, List.getElem?_append_right (by omega), hf1, Nat.add_sub_cancel_left, List.flatten_append, List.getElem?_append_left (by exact (List.getElem?_eq_some_iff.1 hv).1)]
  exact hv
theorem RdL.sub (hr : RdL enc K a sz l) {lo hi : Int} {cap : Nat} (hb : 0 ≤ lo ∧ lo ≤ hi ∧ hi ≤ l.length) (hcap : l.length ≤ cap) : RdL enc K (subA a cap lo.toNat sz) sz (subL l lo hi) := by
 have := RdS.sub hr (lo := lo.toNat) (n := (hi - lo).toNat) (cap := cap) (by simp; omega) (by simpa using hcap)
 rw [← List.map_drop, ← List.map_take] at this
 exact this
theorem qf3 {lo hi : Int} (hb : 0 ≤ lo ∧ lo ≤ hi ∧ hi ≤ l.length) : (subL l lo hi).length = (hi - lo).toNat := by
 simp [subL]; omega
theorem qrb {e n : Nat} {lo hi : Option Int} (ht : P.underlying t = some (.slice e)) (hsz : qbc P e = some sz) (hn : n = l.length) (hcap : n ≤ cap) (hb : 0 ≤ loI lo ∧ loI lo ≤ hiI l.length hi ∧ hiI l.length hi ≤ l.length)
  (h : c (.slice (subA a cap (loI lo).toNat sz) (subL l (loI lo) (hiI l.length hi)).length (cap - (loI lo).toNat))) : NStep P (.slice t (.slice a n cap) (vI lo) (vI hi) none) c := by
 subst hn
 refine NStep.mk _ (fun w => ?_) h
 have := qjf (P := P) (isS := true) (len := l.length) (cap := cap) hb.1 hb.2.1 hb.2.2 hcap w
 have hlen := qf3 (l := l) hb
 rw [hlen]
 simp only [M.sem, Instr.sliceAt, Instr.slice, Sem.run_bind, run_underlying ht, Result.andThen_ok]
 rw [this]
 simp only [Result.andThen_ok, Sem.run_bind, qbi hsz, Sem.run_pure, subA]
 congr 4
 omega
theorem qxl {u : TypeId} {e : Err} {xt : TypeId} {z : Value} (hz : qbk P u = some z) (hzz : z = .int .i64 0) (hu : match P.underlying u with | some (.interface _) => false | some _ => true | none => false) (h : c (.tuple #[.int .i64 (e.getD 0), .bool e.isSome])) :
  NStep P (.assert (qc3 u e) xt u true) c := by
 subst hzz
 cases hd : P.underlying u with
 | none => simp [hd] at hu
 | some d =>
  refine NStep.mk _ (fun w => ?_) h
  cases d <;> simp [hd] at hu <;> cases e <;> simp [M.sem, qc3, Instr.typeAssert, run_underlying hd, qdv hz]
end
section
variable {P : Program} {K K' : Hp} {H H' : List HProp} {α : Type} {R : Rp α} {a : Option Addr} {t tx e ty sz cap : Nat} {l new : List α}
structure LR (R : Rp α) (K : Hp) (css : List (List Value)) (l : List α) : Prop where
 len : css.length = l.length
 all : ∀ (i : Nat) (c : List Value) (x : α), css[i]? = some c → l[i]? = some x → R K c x
theorem LR.nil : LR R K [] [] := ⟨rfl, fun _ _ _ h => by simp at h⟩
theorem LR.mono {css : List (List Value)} {n : Nat} (hR : qha n R) (hk : K.Le K') (h : LR R K css l) : LR R K' css l := ⟨h.len, fun i c x h1 h2 => hR.mono hk (h.all i c x h1 h2)⟩
theorem LR.snoc {css : List (List Value)} {c : List Value} {x : α} (h : LR R K css l) (hx : R K c x) : LR R K (css ++ [c]) (l ++ [x]) := by
 refine ⟨by simp [h.len], fun i c' x' h1 h2 => ?_⟩
 rcases Nat.lt_or_ge i css.length with hi | hi
 ·rw [List.getElem?_append_left hi] at h1
  rw [List.getElem?_append_left (by rw [← h.len]; exact hi)] at h2
  exact h.all i c' x' h1 h2
 ·rw [List.getElem?_append_right hi] at h1
  rw [List.getElem?_append_right (by rw [← h.len]; exact hi), ← h.len] at h2
  rcases Nat.eq_zero_or_pos (i - css.length) with h0 | h0
  ·rw [h0] at h1 h2; simp at h1 h2; subst h1 h2; exact hx
  ·rw [List.getElem?_eq_none (by simp; omega)] at h1; cases h1
theorem LR.app {css css' : List (List Value)} {l' : List α} (h : LR R K css l) (h' : LR R K css' l') : LR R K (css ++ css') (l ++ l') := by
 refine ⟨by simp [h.len, h'.len], fun i c' x' h1 h2 => ?_⟩
 rcases Nat.lt_or_ge i css.length with hi | hi
 ·rw [List.getElem?_append_left hi] at h1
  rw [List.getElem?_append_left (by rw [← h.len]; exact hi)] at h2
  exact h.all i c' x' h1 h2
 ·rw [List.getElem?_append_right hi] at h1
  rw [List.getElem?_append_right (by rw [← h.len]; exact hi), ← h.len] at h2
  exact h'.all _ c' x' h1 h2
theorem LR.get {css : List (List Value)} {i : Nat} {x : α} (h : LR R K css l) (hx : l[i]? = some x) : ∃ c, css[i]? = some c ∧ R K c x := by
 have hi : i < css.length := by rw [h.len]; exact (List.getElem?_eq_some_iff.1 hx).1
 exact ⟨css[i], List.getElem?_eq_getElem hi, h.all i _ x (List.getElem?_eq_getElem hi) hx⟩
theorem LiR.mk' {css : List (List Value)} (h1 : RdS K a sz css) (h : LR R K css l) : LiR sz R K a l := ⟨css, h1, h.len, h.all⟩
theorem LiR.get {i : Nat} {x : α} (h : LiR sz R K a l) (hx : l[i]? = some x) : ∃ css c, RdS K a sz css ∧ css[i]? = some c ∧ R K c x := by
 obtain ⟨css, h1, h2, h3⟩ := h.ex
 have hi : i < css.length := by rw [h2]; exact (List.getElem?_eq_some_iff.1 hx).1
 exact ⟨css, css[i], h1, List.getElem?_eq_getElem hi, h3 i _ x (List.getElem?_eq_getElem hi) hx⟩
theorem qda {i : Nat} {x : α} (h : LiR sz R K a l) (hx : l[i]? = some x) : Has a := h.has (by have := (List.getElem?_eq_some_iff.1 hx).1; omega)
theorem LiR.sub (hr : LiR sz R K a l) {lo hi : Int} {cap : Nat} (hb : 0 ≤ lo ∧ lo ≤ hi ∧ hi ≤ l.length) (hcap : l.length ≤ cap) : LiR sz R K (subA a cap lo.toNat sz) (subL l lo hi) := by
 obtain ⟨css, h1, h2, h3⟩ := hr.ex
 refine ⟨subL css lo hi, ?_, by simp [subL, h2], fun i c x hc hx => ?_⟩
 ·exact RdS.sub h1 (by omega) (by omega)
 ·simp only [subL, List.getElem?_take, List.getElem?_drop] at hc hx
  split at hc
  ·rename_i hi'; rw [qx2 hi'] at hx; exact h3 _ c x hc hx
  ·cases hc
variable {cs : Array Bool} {c : VP} {css news : List (List Value)}
theorem apR {x : Value} {n : Nat} (hr : Rem (OwnA a e sz cap css) H H') (hlr : LR R K css l) (hn : n = l.length) (T : ElT P t e sz) (hs : qfz P K H' sz tx x news) (hnl : LR R K news new) (hl : l.length + new.length ≤ lim)
  (h : ∀ a' cap', (0 < (l ++ new).length → Has a') → c (.slice a' (l ++ new).length cap') K (OwnA a' e sz cap' (css ++ news) :: H')) :
  WStep P (.builtin .append #[t, tx] ty cs [.slice a n cap, x]) K H c := by
 subst hn
 obtain ⟨z, hz, hzs⟩ := T.hz
 obtain ⟨by_, hby, hbb⟩ := T.hby
 have e1 := hlr.len; have e2 := hnl.len
 refine qh9 hr e1.symm T.ht T.hsz hz hzs T.hpos hby hs (qwf (by omega) hbb) (by simp only [lim] at hl; omega) fun a' cap' ha => ?_
 have := h a' cap' (by rw [List.length_append, ← e1, ← e2]; exact ha)
 rw [List.length_append, ← e1, ← e2] at this
 exact this
theorem qxm {x : Value} (T : ElT P t e sz) (hs : qfz P K H sz tx x news) (hnl : LR R K news new) (hl : new.length ≤ lim)
  (h : ∀ a' cap', (0 < new.length → Has a') → c (.slice a' new.length cap') K (OwnA a' e sz cap' news :: H)) :
  WStep P (.builtin .append #[t, tx] ty cs [.slice none 0 0, x]) K H c := by
 obtain ⟨z, hz, hzs⟩ := T.hz
 obtain ⟨by_, hby, hbb⟩ := T.hby
 have e2 := hnl.len
 refine append_nil T.ht T.hsz hz hzs T.hpos hby hs (qwf (by omega) hbb) (by simp only [lim] at hl; omega) fun a' cap' ha => ?_
 have := h a' cap' (by rw [← e2]; exact ha)
 rw [← e2] at this
 exact this
theorem qtp {x : Value} {n : Nat} (hr : Rem (OwnA a e sz cap css) H H') (hlr : LR R K css l) (hn : n = l.length) (T : ElT P t e sz) (hs : qfz P K H' sz tx x news) (hnl : LR R K news new) (hl : l.length + new.length ≤ lim)
  (h : ∀ a' cap' css', LR R K css' (l ++ new) → (0 < (l ++ new).length → Has a') → c (.slice a' (l ++ new).length cap') K (OwnA a' e sz cap' css' :: H')) :
  WStep P (.builtin .append #[t, tx] ty cs [.slice a n cap, x]) K H c := apR hr hlr hn T hs hnl hl fun a' cap' ha => h a' cap' _ (hlr.app hnl) ha
theorem qwg {x : Value} (T : ElT P t e sz) (hs : qfz P K H sz tx x news) (hnl : LR R K news new) (hl : new.length ≤ lim)
  (h : ∀ a' cap' css', LR R K css' new → (0 < new.length → Has a') → c (.slice a' new.length cap') K (OwnA a' e sz cap' css' :: H)) :
  WStep P (.builtin .append #[t, tx] ty cs [.slice none 0 0, x]) K H c := qxm T hs hnl hl fun a' cap' ha => h a' cap' _ hnl ha
structure RdC {α : Type} (enc : α → List Value) (K : Hp) (a : Option Addr) (cap sz : Nat) (l : List α) : Prop where
 rd : RdL enc K a sz l
 le : l.length ≤ cap
structure LiC {α : Type} (R : Rp α) (K : Hp) (a : Option Addr) (cap sz : Nat) (l : List α) : Prop where
 rd : LiR sz R K a l
 le : l.length ≤ cap
theorem RdC.mono {α : Type} {enc : α → List Value} {K K' : Hp} {a : Option Addr} {cap sz : Nat} {l : List α} (h : RdC enc K a cap sz l) (hk : K.Le K') : RdC enc K' a cap sz l := ⟨RdS.mono h.rd hk, h.le⟩
theorem LiC.mono {α : Type} {R : Rp α} {n : Nat} {K K' : Hp} {a : Option Addr} {cap : Nat} {l : List α} (hR : qha n R) (hk : K.Le K') (h : LiC R K a cap n l) : LiC R K' a cap n l := ⟨LiR.mono hR hk h.rd, h.le⟩
theorem RdC.nil {α : Type} {enc : α → List Value} {K : Hp} {a : Option Addr} {cap sz : Nat} : RdC enc K a cap sz [] := ⟨RdS.nil, Nat.zero_le _⟩
theorem LiC.nil {α : Type} {R : Rp α} {K : Hp} {a : Option Addr} {cap sz : Nat} : LiC R K a cap sz [] := ⟨LiR.nil, Nat.zero_le _⟩
def qv6 {α : Type} (enc : α → List Value) (sz : Nat) : Rp (List α) := fun K cs l => ∃ a cap, cs = [.slice a l.length cap] ∧ RdC enc K a cap sz l
def qxb {α : Type} (R : Rp α) (sz : Nat) : Rp (List α) := fun K cs l => ∃ a cap, cs = [.slice a l.length cap] ∧ LiC R K a cap sz l
theorem qtq {α : Type} {enc : α → List Value} {sz : Nat} : qha 1 (qv6 enc sz) :=
 ⟨fun hk ⟨a, cap, h1, h2⟩ => ⟨a, cap, h1, h2.mono hk⟩, fun ⟨a, cap, h1, _⟩ => by simp [h1], fun ⟨a, cap, h1, _⟩ v hv => by rw [h1] at hv; simp at hv; subst hv; rfl⟩
theorem qtr {α : Type} {R : Rp α} {sz : Nat} (hR : qha sz R) : qha 1 (qxb R sz) :=
 ⟨fun hk ⟨a, cap, h1, h2⟩ => ⟨a, cap, h1, LiC.mono hR hk h2⟩, fun ⟨a, cap, h1, _⟩ => by simp [h1], fun ⟨a, cap, h1, _⟩ v hv => by rw [h1] at hv; simp at hv; subst hv; rfl⟩
theorem Sat.ownLen {Γ : World} {w : World} (s : Sat Γ K (OwnA a e sz cap css :: H) w) : css.length ≤ cap := by
 obtain ⟨_, _, ⟨_, rfl, rfl, _⟩ | ⟨_, _, _, _, _, _, k2, _⟩⟩ := s.own
 ·exact Nat.le_refl _
 ·exact k2
theorem Sat.fzA {Γ : World} {w : World} (hr : Rem (OwnA a e sz cap css) H H') (s : Sat Γ K H w) : ∃ K' : Hp, K.Le K' ∧ RdS K' a sz css ∧ Sat Γ K' H' w := (s.rem hr).ownFreeze
theorem qxn {K0 : Hp} {F : HProp} {Q : VP} {v : Value} (hR : qha sz R) (hr : Rem (OwnA a e sz cap css) H H') (hl : LR R K css l) (h : ∀ K', K.Le K' → LiC R K' a cap sz l → EndStep K0 F Q v K' H') : EndStep K0 F Q v K H :=
 EndStep.conv fun Γ w s => let ⟨K', h1, h2, h3⟩ := s.fzA hr; ⟨K', H', h3, h K' h1 ⟨LiR.mk' h2 (hl.mono hR h1), by rw [← hl.len]; exact (s.rem hr).ownLen⟩⟩
theorem qoc {m : M} (hR : qha sz R) (hr : Rem (OwnA a e sz cap css) H H') (hl : LR R K css l) (h : ∀ K', K.Le K' → LiC R K' a cap sz l → WStep P m K' H' c) : WStep P m K H c :=
 WStep.conv fun Γ w s => let ⟨K', h1, h2, h3⟩ := s.fzA hr; ⟨K', H', h3, h K' h1 ⟨LiR.mk' h2 (hl.mono hR h1), by rw [← hl.len]; exact (s.rem hr).ownLen⟩⟩
theorem qmf {f : FuncId} {args : List Value} (hf : ∀ a w, (callFunc f a).run P w = .ok (.enter f a) w) (hR : qha sz R) (hr : Rem (OwnA a e sz cap css) H H') (hl : LR R K css l) (h : ∀ K', K.Le K' → LiC R K' a cap sz l → CallStep P f args K' H' c) : CallStep P f args K H c :=
 CallStep.conv hf fun Γ w s => let ⟨K', h1, h2, h3⟩ := s.fzA hr; ⟨K', H', h3, h K' h1 ⟨LiR.mk' h2 (hl.mono hR h1), by rw [← hl.len]; exact (s.rem hr).ownLen⟩⟩
end
section
variable {P : Program} {K : Hp} {H H' : List HProp} {α : Type} {enc : α → List Value} {e sz b : Nat} {l : List α} {cl : List Value}
theorem RStep.conv' {m : M} {c : Value → Prop} (h : ∀ Γ w, Sat Γ K H w → RStep P m K H c) : RStep P m K H c := by
 exact ⟨fun Γ w s => (h Γ w s).elim Γ w s⟩
theorem qxc {β γ : Type} {A : Option γ} {f : β → Option γ} {r : γ} (h : Option.elim none A f = some r) : A = some r := h
theorem qxd {β γ : Type} {A : Option γ} {f : β → Option γ} {x : β} {r : γ} (h : Option.elim (some x) A f = some r) : f x = some r := h
theorem fW {m : M} {c : VP} {a : Option Addr} {cap : Nat} (hr : Rem (OwnL enc a e sz cap l) H H') (h : ∀ K', K.Le K' → RdC enc K' a cap sz l → WStep P m K' H' c) : WStep P m K H c :=
 WStep.conv fun Γ w s => let ⟨K', h1, h2, h3⟩ := s.fz hr; ⟨K', H', h3, h K' h1 ⟨h2, by simpa using (s.rem hr).ownLen⟩⟩
theorem fF {f : FuncId} {args : List Value} {c : VP} {a : Option Addr} {cap : Nat} (hf : ∀ a w, (callFunc f a).run P w = .ok (.enter f a) w) (hr : Rem (OwnL enc a e sz cap l) H H') (h : ∀ K', K.Le K' → RdC enc K' a cap sz l → CallStep P f args K' H' c) : CallStep P f args K H c :=
 CallStep.conv hf fun Γ w s => let ⟨K', h1, h2, h3⟩ := s.fz hr; ⟨K', H', h3, h K' h1 ⟨h2, by simpa using (s.rem hr).ownLen⟩⟩
theorem fRo {σ : Type} {ws : List Nat} {sl : σ → List (Nat × Value)} {Hf : σ → List HProp} {C : σ → Hp → Prop} {μ : σ → Nat} {env0 : List Value} {K0 : Hp} {m : Nat} {env : List Value} {a : Option Addr} {cap : Nat}
  (hr : Rem (OwnL enc a e sz cap l) H H') (h : ∀ K', K.Le K' → RdC enc K' a cap sz l → RoundStep ws sl Hf C μ env0 K0 m env K' H') : RoundStep ws sl Hf C μ env0 K0 m env K H :=
 RoundStep.conv fun Γ w s => let ⟨K', h1, h2, h3⟩ := s.fz hr; ⟨K', H', h3, h K' h1 ⟨h2, by simpa using (s.rem hr).ownLen⟩⟩
theorem RdC.subC {K : Hp} {a : Option Addr} {cap : Nat} (h : RdC enc K a cap sz l) {lo hi : Int} (hb : 0 ≤ lo ∧ lo ≤ hi ∧ hi ≤ l.length) : RdC enc K (subA a cap lo.toNat sz) (cap - lo.toNat) sz (subL l lo hi) :=
 ⟨RdL.sub h.rd hb h.le, by rw [qf3 hb]; have := h.le; omega⟩
theorem LiC.subC {R : Rp α} {K : Hp} {a : Option Addr} {cap : Nat} (h : LiC R K a cap sz l) {lo hi : Int} (hb : 0 ≤ lo ∧ lo ≤ hi ∧ hi ≤ l.length) : LiC R K (subA a cap lo.toNat sz) (cap - lo.toNat) sz (subL l lo hi) :=
 ⟨LiR.sub h.rd hb h.le, by rw [qf3 hb]; have := h.le; omega⟩
theorem Sat.ownTake {Γ : World} {w : World} {K : Hp} {a : Option Addr} {cap : Nat} {css : List (List Value)} (s : Sat Γ K (OwnA a e sz cap css :: H) w) (n : Nat) : Sat Γ K (OwnA a e sz cap (css.take n) :: H) w := by
 obtain ⟨hl, ho, ⟨rfl, rfl, rfl, s0⟩ | ⟨b, cur, fz, hfz, rfl, k1, k2, k3, k4, s0⟩⟩ := s.own
 ·simpa using s0.mkNil
 ·refine s0.mkOwnF hfz (fun m h => hl m (List.mem_of_mem_take h)) (fun m h => ho m (List.mem_of_mem_take h)) k1 (by simp; omega) k3 (fun i v hv => k4 i v ?_)
  have e : css = css.take n ++ css.drop n := (List.take_append_drop n css).symm
  rw [e, List.flatten_append, List.getElem?_append_left (List.getElem?_eq_some_iff.1 hv).1]; exact hv
theorem qaw {i : Int} {n : Nat} {x : α} (hn : n = l.length) (h0 : 0 ≤ i) (hx : l[i.toNat]? = some x) : i < (n : Int) := by subst hn; exact qwe h0 hx
theorem qfh {i n : Nat} {x : α} (hn : n = l.length) (hx : l[i]? = some x) : (i : Int) < (n : Int) := by subst hn; exact qbp hx
theorem qfi {src dst e e' n : TypeId} {l : Str} {a : Option Addr} {cap : Nat} {c : Value → Prop} (hn : n = l.length) (hr : Rem (OwnL eU a e' 1 cap l) H H') (hs : P.underlying src = some (.slice e)) (he : P.underlying e = some (.int .u8)) (hd : P.underlying dst = some .string) (h : c (str l)) :
  RStepS P (.conv src dst (.slice a n cap)) K H c := by subst hn; exact quw hr hs he hd h
theorem apE {x : Value} {n t tx ty : Nat} {new : List α} {a : Option Addr} {cap : Nat} {cs : Array Bool} {c : VP} (hn : n = l.length) (hr : Rem (OwnL enc a e sz cap l) H H') (T : ElT P t e sz) (hs : qfz P K H' sz tx x (new.map enc)) (hl : l.length + new.length ≤ lim)
  (h : ∀ a' cap', (0 < (l ++ new).length → Has a') → c (.slice a' (l ++ new).length cap') K (OwnL enc a' e sz cap' (l ++ new) :: H')) :
  WStep P (.builtin .append #[t, tx] ty cs [.slice a n cap, x]) K H c := by subst hn; exact ap hr T hs hl h
theorem mkFunc {c : Value → Prop} {g : FuncId} {first captured : List Value} (h : c (.func (.func g) first.toArray captured.toArray)) : NStep P (.mkFunc (.func g) first captured) c :=
 NStep.mk _ (fun w => by simp [M.sem, Instr.makeFunc]) h
theorem qic {lo hi : Int} (hb : 0 ≤ lo ∧ lo ≤ hi ∧ hi ≤ (l.length : Int)) (h : 0 < (subL l lo hi).length) : 0 < l.length := by
 rw [qf3 hb] at h; omega
theorem qrc {t n : Nat} {a : Option Addr} {cap : Nat} {css : List (List Value)} {hi : Option Int} {c : Value → Prop} (hn : n = l.length) (hr : Rem (OwnA a e sz cap css) H H') (hlc : css.length = l.length) (ht : P.underlying t = some (.slice e)) (hsz : qbc P e = some sz)
  (hb : (0 : Int) ≤ 0 ∧ 0 ≤ hiI l.length hi ∧ hiI l.length hi ≤ l.length) (h : c (.slice a (subL l 0 (hiI l.length hi)).length cap)) : RStep P (.slice t (.slice a n cap) none (vI hi) none) K H c := by
 refine RStep.conv' fun Γ w s => ?_
 have hle := (s.rem hr).ownLen
 refine RStep.ofN (qrb (l := l) (lo := none) (hi := hi) ht hsz hn (by rw [hn, ← hlc]; exact hle) hb ?_)
 have e1 : subA a cap (loI none).toNat sz = a := by
  show (if cap = (0 : Int).toNat then a else a.map (·.add ((0 : Int).toNat * sz))) = a
  split
  ·rfl
  ·cases a <;> simp [Addr.add]
 rw [e1]
 exact h
theorem Sat.tk {Γ : World} {w : World} {a : Option Addr} {cap : Nat} (hr : Rem (OwnL enc a e sz cap l) H H') (hi : Int) (s : Sat Γ K H w) : Sat Γ K (OwnL enc a e sz cap (subL l 0 hi) :: H') w := by
 have := (s.rem hr).ownTake (hi - 0).toNat
 have e1 : (subL l 0 hi).map enc = (l.map enc).take (hi - 0).toNat := by simp [subL, List.map_take]
 show Sat Γ K (OwnA a e sz cap ((subL l 0 hi).map enc) :: H') w
 rw [e1]; exact this
theorem tkW {m : M} {c : VP} {a : Option Addr} {cap : Nat} (hi : Int) (hr : Rem (OwnL enc a e sz cap l) H H') (h : WStep P m K (OwnL enc a e sz cap (subL l 0 hi) :: H') c) : WStep P m K H c :=
 WStep.conv fun Γ w s => ⟨K, _, s.tk hr hi, h⟩
theorem tkE {K0 : Hp} {F : HProp} {R : VP} {v : Value} {a : Option Addr} {cap : Nat} (hi : Int) (hr : Rem (OwnL enc a e sz cap l) H H') (h : EndStep K0 F R v K (OwnL enc a e sz cap (subL l 0 hi) :: H')) : EndStep K0 F R v K H :=
 EndStep.conv fun Γ w s => ⟨K, _, s.tk hr hi, h⟩
theorem WStep.post {m : M} {c c' : VP} (h : WStep P m K H c') (hc : ∀ Γ w v K' H', c' v K' H' → Sat Γ K' H' w → ∃ K'' H'', Sat Γ K'' H'' w ∧ c v K'' H'') : WStep P m K H c := by
 refine ⟨fun Γ w s => ?_⟩
 obtain ⟨r, w', v, K', H', h1, h2, h3, h4⟩ := h.elim Γ w s
 obtain ⟨K'', H'', h5, h6⟩ := hc Γ w' v K' H' h4 h3
 exact ⟨r, w', v, K'', H'', h1, h2, h5, h6⟩
theorem bsO {t len : Nat} {z : Value} {parts : List (Nat × Value)} {c : VP} {cl : List Value} (T : ElT P t e sz) (hz : qbk P e = some z) (hc : (l.map enc).flatten = cl) (hl : ∀ x ∈ l, (enc x).length = sz) (ho : allOne cl = true) (hlen : l.length = len)
  (hb : Nat.ble (len * sz) 16777216 = true) (hk : buildK (qk3 sz 0 len) parts (zrow z.cells 0 (len * sz)) fun cs => cs = cl)
  (h : ∀ b, c (.slice (some ⟨b, 0, none⟩) len len) K (OwnL enc (some ⟨b, 0, none⟩) e sz len l :: H)) : WStep P (.buildSlice t len parts) K H c := by
 have hb' := Nat.le_of_ble_eq_true hb
 have hpos := T.hpos
 have hll : len ≤ lim := by
  have : len * 1 ≤ len * sz := Nat.mul_le_mul_left _ hpos
  simp only [lim]; omega
 subst hlen
 refine WStep.post (c' := fun v K' H' => ∃ b, v = .slice (some ⟨b, 0, none⟩) l.length l.length ∧ K' = K ∧ H' = Cells b e cl :: H) ?_ ?_
 ·refine qib T.ht T.hsz hz hb' ?_
  have mono : ∀ (pl : List (Nat × Nat)) (ps : List (Nat × Value)) (acc : List Value) (k k' : List Value → Prop), (∀ cs, k cs → k' cs) → buildK pl ps acc k → buildK pl ps acc k' := by
   intro pl ps
   induction ps with
   | nil => intro acc k k' hm hk; simp only [buildK, qa9] at hk ⊢; exact hm _ hk
   | cons p ps ih =>
    intro acc k k' hm hk
    obtain ⟨i, v⟩ := p
    simp only [buildK, qbm, qa9] at hk ⊢
    have nth : ∀ (ql : List (Nat × Nat)) (j : Nat) (q q' : Nat × Nat → Prop), (∀ x, q x → q' x) → qti ql j q → qti ql j q' := by
     intro ql
     induction ql with
     | nil => intro j q q' _ h; exact h
     | cons y ql ih => intro j q q' hq h; cases j with
      | zero => exact hq _ h
      | succ j => exact ih j q q' hq h
    refine nth _ _ _ _ (fun x hx => ?_) hk
    rcases condP_true hx with ⟨h1, h2⟩ | ⟨h1, h2⟩
    ·exact qnc h1 (ih _ _ _ hm h2)
    ·exact h2.elim
  refine mono _ _ _ _ _ ?_ hk
  rintro cs rfl b
  exact ⟨b, rfl, rfl, rfl⟩
 ·rintro Γ w v K' H' ⟨b, rfl, rfl, rfl⟩ s
  exact ⟨_, _, s.lit hc hl ho hll, h b⟩
theorem qaz {tx n e' e2 cap : Nat} {a : Option Addr} (ht : P.underlying tx = some (.slice e')) (hr : Rem (OwnL enc a e2 sz cap l) H H') (hn : n = l.length) (hl : ∀ x, (enc x).length = sz) (ho : ∀ x, allOne (enc x) = true) : qfz P K H sz tx (.slice a n cap) (l.map enc) :=
 qo7 ht hr (by simpa using hn) (fun m hm => by obtain ⟨x, _, rfl⟩ := List.mem_map.1 hm; exact hl x) (fun m hm => by obtain ⟨x, _, rfl⟩ := List.mem_map.1 hm; exact qbn (ho x))
theorem qdj {R : Rp α} {tx n e' e2 cap : Nat} {a : Option Addr} {css : List (List Value)} (ht : P.underlying tx = some (.slice e')) (hr : Rem (OwnA a e2 sz cap css) H H') (hn : n = l.length) (hR : qha sz R) (hl : LR R K css l) : qfz P K H sz tx (.slice a n cap) css := by
 have key : ∀ m ∈ css, ∃ x, R K m x := fun m hm => by
  obtain ⟨i, hi⟩ := List.getElem?_of_mem hm
  have hil : i < l.length := by rw [← hl.len]; exact (List.getElem?_eq_some_iff.1 hi).1
  exact ⟨_, hl.all i m _ hi (List.getElem?_eq_getElem hil)⟩
 exact qo7 ht hr (by rw [hn, hl.len]) (fun m hm => let ⟨_, h⟩ := key m hm; hR.len h) (fun m hm => let ⟨_, h⟩ := key m hm; hR.one h)
theorem qmg {R : Rp α} {t len : Nat} {z : Value} {parts : List (Nat × Value)} {c : VP} {cl : List Value} {css : List (List Value)} (hR : qha sz R) (T : ElT P t e sz) (hz : qbk P e = some z) (hc : css.flatten = cl) (hlr : LR R K css l) (hlen : l.length = len)
  (hb : Nat.ble (len * sz) 16777216 = true) (ho : allOne cl = true) (hk : buildK (qk3 sz 0 len) parts (zrow z.cells 0 (len * sz)) fun cs => cs = cl)
  (h : ∀ b, c (.slice (some ⟨b, 0, none⟩) len len) K (OwnA (some ⟨b, 0, none⟩) e sz len css :: H)) : WStep P (.buildSlice t len parts) K H c := by
 have key : ∀ m ∈ css, m.length = sz := fun m hm => by
  obtain ⟨i, hi⟩ := List.getElem?_of_mem hm
  have hil : i < l.length := by rw [← hlr.len]; exact (List.getElem?_eq_some_iff.1 hi).1
  exact hR.len (hlr.all i m _ hi (List.getElem?_eq_getElem hil))
 refine bsO (enc := fun x : List Value => x) (l := css) T hz (by simpa using hc) key ho (by rw [hlr.len, hlen]) hb hk fun b => ?_
 have := h b
 simpa [OwnL] using this
theorem qc8 {a b : Bool} (h : a = true) : b = (a && b) := by rw [h]; rfl
theorem qid {a b : Bool} (h : a = false) : b = (a || b) := by rw [h]; rfl
end
end Go.SL
