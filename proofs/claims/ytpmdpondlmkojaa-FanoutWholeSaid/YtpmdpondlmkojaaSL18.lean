/- Loops over maps: the order is the run's; a proof speaks of all orders. Made slices. -/
import Derived.Test.YtpmdpondlmkojaaSL17
import Derived.Maps.RangeRun
import Derived.Laws.MakeOwn
set_option linter.unusedVariables false
set_option linter.unusedSimpArgs false
set_option linter.unusedSectionVars false
namespace Go.SL
open Go Go.ChangeMaps
section
variable {P : Program} {α β : Type} [DecidableEq α]
/-- The map in block 'b', and an iterator in block 'r' that has handed out 'vis', in this order. -/
def MapIt (kenc : α → Value) (venc : β → Value) (r b : Nat) (m vis : List (α × β)) : HProp := fun h =>
  ∃ (es : Array MapEntry) (clock since c0 : Nat) (seen : Array Nat) (Z V W : List (MapEntry × (α × β))),
    es.toList = Z.map (·.1) ∧ m = Z.map (·.2) ∧ (∀ z ∈ Z, z.1.key = kenc z.2.1 ∧ z.1.val = venc z.2.2) ∧ (V ++ W).Perm Z ∧ seen.toList = V.map (·.1.born) ∧ vis = V.map (·.2) ∧
    (m.map (·.1)).Nodup ∧ (es.toList.map (·.born)).Nodup ∧ (∀ e ∈ es.toList, e.born < clock) ∧ since = clock ∧ c0 = clock ∧
    SepL [Blk b (.map es clock), Blk r (.mapIter (some b) since seen c0)] h
theorem Sat.mapIt {Γ : World} {K : Hp} {kenc : α → Value} {venc : β → Value} {r b : Nat} {m vis : List (α × β)} {H : List HProp} {w : World} (s : Sat Γ K (MapIt kenc venc r b m vis :: H) w) :
    ∃ (es : Array MapEntry) (clock : Nat) (seen : Array Nat) (Z V W : List (MapEntry × (α × β))),
      es.toList = Z.map (·.1) ∧ m = Z.map (·.2) ∧ (∀ z ∈ Z, z.1.key = kenc z.2.1 ∧ z.1.val = venc z.2.2) ∧ (V ++ W).Perm Z ∧ seen.toList = V.map (·.1.born) ∧ vis = V.map (·.2) ∧
      (m.map (·.1)).Nodup ∧ (es.toList.map (·.born)).Nodup ∧ (∀ e ∈ es.toList, e.born < clock) ∧
      Sat Γ K (Blk b (.map es clock) :: Blk r (.mapIter (some b) clock seen clock) :: H) w := by
  obtain ⟨h, d, ⟨h1, h2, d12, l1, l2, ⟨es, clock, since, c0, seen, Z, V, W, g1, g2, g3, g4, g5, g6, g7, g8, g9, rfl, rfl, hs⟩, rest⟩, y⟩ := s.heap
  exact ⟨es, _, seen, Z, V, W, g1, g2, g3, g4, g5, g6, g7, g8, g9, s.os, s.tape, s.output, s.know, h, d, SepL.flat d12 l1 l2 hs rest, y⟩
theorem Sat.mkIt {Γ : World} {K : Hp} {kenc : α → Value} {venc : β → Value} {r b : Nat} {m vis : List (α × β)} {H : List HProp} {w : World} {es : Array MapEntry} {clock : Nat} {seen : Array Nat} {Z V W : List (MapEntry × (α × β))}
    (g1 : es.toList = Z.map (·.1)) (g2 : m = Z.map (·.2)) (g3 : ∀ z ∈ Z, z.1.key = kenc z.2.1 ∧ z.1.val = venc z.2.2) (g4 : (V ++ W).Perm Z) (g5 : seen.toList = V.map (·.1.born)) (g6 : vis = V.map (·.2))
    (g7 : (m.map (·.1)).Nodup) (g8 : (es.toList.map (·.born)).Nodup) (g9 : ∀ e ∈ es.toList, e.born < clock)
    (s : Sat Γ K (Blk b (.map es clock) :: Blk r (.mapIter (some b) clock seen clock) :: H) w) : Sat Γ K (MapIt kenc venc r b m vis :: H) w := by
  obtain ⟨h, d, hs, y⟩ := s.heap
  obtain ⟨h1, h2, d12, l1, l2, x, z⟩ := SepL.parts (L := [Blk b (.map es clock), Blk r (.mapIter (some b) clock seen clock)]) (M := H) hs
  exact ⟨s.os, s.tape, s.output, s.know, h, d, ⟨h1, h2, d12, l1, l2, ⟨es, clock, clock, clock, seen, Z, V, W, g1, g2, g3, g4, g5, g6, g7, g8, g9, rfl, rfl, x⟩, z⟩, y⟩
/-- The iterator is let go of. -/
theorem Sat.itMap {Γ : World} {K : Hp} {kenc : α → Value} {venc : β → Value} {r b : Nat} {m vis : List (α × β)} {H : List HProp} {w : World} (s : Sat Γ K (MapIt kenc venc r b m vis :: H) w) : Sat Γ K (MapE kenc venc b m :: H) w := by
  obtain ⟨es, clock, seen, Z, V, W, g1, g2, g3, g4, g5, g6, g7, g8, g9, s0⟩ := s.mapIt
  refine (Sat.mkMap (H := Blk r _ :: H) s0 ?_ g7 g8 g9).rem (.there .here) |>.drop
  rw [g1, g2, List.map_map, List.map_map]
  exact List.map_congr_left fun z hz => by simp [g3 z hz]
theorem range_rule {t kt et b : Nat} {kenc : α → Value} {venc : β → Value} {m : List (α × β)} {K : Hp} {H H' : List HProp} {c : VP} (hr : Rem (MapE kenc venc b m) H H') (ht : P.underlying t = some (.map kt et))
    (h : ∀ r, c (.pointer (some ⟨r, 0, none⟩)) K (MapIt kenc venc r b m [] :: H')) : WStep P (.range t (.map (some b))) K H c := by
  refine ⟨fun Γ w s => ?_⟩
  obtain ⟨es, clock, g1, g2, g3, g4, s'⟩ := (s.rem hr).mapE
  have hg := run_getObj (P := P) s'.blk (by simp)
  have hs2 := Sat.push (o := .mapIter (some b) clock #[] clock) s'
  refine ⟨_, w.alloc (.mapIter (some b) clock #[] clock), .pointer (some ⟨w.heap.size, 0, none⟩), K, _, ?_, .inl rfl, ?_, h w.heap.size⟩
  · simp [M.sem, Instr.range, run_underlying ht, hg, newObj, Sem.run_bind, Sem.run, Result.andThen]
  · have hlen : es.toList.length = m.length := by have := congrArg List.length g1; simpa using this
    have e1 : es.toList = (es.toList.zip m).map (·.1) := by rw [List.map_fst_zip (by omega)]
    have e2 : m = (es.toList.zip m).map (·.2) := by rw [List.map_snd_zip (by omega)]
    refine Sat.mkIt (Z := es.toList.zip m) (V := []) (W := es.toList.zip m) e1 e2 (fun z hz => ?_) (List.Perm.refl _) rfl rfl g2 g3 g4 ((hs2.rem (.there .here)))
    obtain ⟨i, hi, hz⟩ := List.mem_iff_getElem.1 hz
    rw [← hz, List.getElem_zip]
    have h1 : i < es.toList.length := by simp at hi; omega
    have h2 : i < m.length := by omega
    have := congrArg (·[i]?) g1
    simp only [List.getElem?_map, List.getElem?_eq_getElem h1, List.getElem?_eq_getElem h2, Option.map_some, Option.some.injEq, Prod.mk.injEq] at this
    exact this
theorem next_rule {ty r b : Nat} {kenc : α → Value} {venc : β → Value} {m vis : List (α × β)} {K : Hp} {H H' : List HProp} {c : VP} (hr : Rem (MapIt kenc venc r b m vis) H H')
    (h1 : vis.Perm m → c (.tuple #[.bool false]) K (MapE kenc venc b m :: H'))
    (h2 : ∀ p rest, (vis ++ p :: rest).Perm m → c (.tuple #[.bool true, kenc p.1, venc p.2]) K (MapIt kenc venc r b m (vis ++ [p]) :: H')) : WStep P (.next (.pointer (some ⟨r, 0, none⟩)) false ty) K H c := by
  refine ⟨fun Γ w s => ?_⟩
  obtain ⟨es, clock, seen, Z, V, W, g1, g2, g3, g4, g5, g6, g7, g8, g9, s0⟩ := (s.rem hr).mapIt
  have hb := s0.blk
  have hrb := (s0.rem (.there .here)).blk
  have hmem : ∀ z, z ∈ Z ↔ z ∈ V ∨ z ∈ W := fun z => by rw [← g4.mem_iff, List.mem_append]
  have hes : ∀ z ∈ Z, z.1 ∈ es.toList := fun z hz => by rw [g1]; exact List.mem_map.2 ⟨z, hz, rfl⟩
  have hnz : (Z.map (·.1.born)).Nodup := by rw [g1, List.map_map] at g8; exact g8
  have hnv : ((V ++ W).map (·.1.born)).Nodup := (g4.map _).nodup_iff.2 hnz
  rcases run_next_at (P := P) w ty r b clock clock seen es clock hrb hb (fun x hx => g9 x hx) (Nat.le_refl _) with ⟨hz, hrun⟩ | ⟨e, he, w1, hw1, hrun⟩
  · refine ⟨_, w, _, K, _, by simp [M.sem, hrun], .inl rfl, (s.rem hr).itMap, h1 ?_⟩
    have hW : W = [] := by
      cases W with
      | nil => rfl
      | cons z W =>
        exfalso
        have hzZ : z ∈ Z := (hmem z).2 (.inr (by simp))
        have : z.1 ∈ (leftOf es seen).toList := by
          unfold leftOf
          simp only [Array.toList_filter, List.mem_filter, Bool.not_eq_true']
          refine ⟨hes z hzZ, ?_⟩
          rw [← Bool.not_eq_true, Array.contains_iff_mem, ← Array.mem_toList_iff, g5]
          intro hc
          rw [List.map_append, List.nodup_append] at hnv
          exact hnv.2.2 _ hc _ (List.mem_map.2 ⟨z, by simp, rfl⟩) rfl
        rw [Array.eq_empty_of_size_eq_zero hz] at this
        simp at this
    subst hW
    rw [g6, g2]
    exact (by simpa using g4 : V.Perm Z).map _
  · have hez : e ∈ es.toList ∧ ¬ e.born ∈ V.map (·.1.born) := by
      unfold leftOf at he
      simp only [Array.toList_filter, List.mem_filter, Bool.not_eq_true'] at he
      refine ⟨he.1, ?_⟩
      have := he.2
      rw [← Bool.not_eq_true, Array.contains_iff_mem, ← Array.mem_toList_iff, g5] at this
      exact this
    obtain ⟨z, hzZ, rfl⟩ : ∃ z ∈ Z, z.1 = e := by
      have := hez.1; rw [g1] at this
      obtain ⟨z, h, h'⟩ := List.mem_map.1 this
      exact ⟨z, h, h'⟩
    have hzW : z ∈ W := ((hmem z).1 hzZ).resolve_left fun h => hez.2 (List.mem_map.2 ⟨z, h, rfl⟩)
    obtain ⟨W1, W2, rfl⟩ := List.append_of_mem hzW
    have hp : ((V ++ [z]) ++ (W1 ++ W2)).Perm Z := by
      refine List.Perm.trans ?_ g4
      simp only [List.append_assoc, List.singleton_append]
      exact List.Perm.append_left _ List.perm_middle.symm
    have s1 : Sat Γ K (Blk r (.mapIter (some b) clock seen clock) :: Blk b (.map es clock) :: H') w1 := by
      have : Sat Γ K (Blk r (.mapIter (some b) clock seen clock) :: Blk b (.map es clock) :: H') w := s0.rem (.there .here)
      rcases hw1 with rfl | rfl
      · exact this
      · exact this.drew
    have s2 := Sat.setMap (o' := .mapIter (some b) clock (seen.push z.1.born) clock) s1
    have hkv := g3 z hzZ
    refine ⟨_, setBlock w1 r (.mapIter (some b) clock (seen.push z.1.born) clock), .tuple #[.bool true, kenc z.2.1, venc z.2.2], K, _, by simp [M.sem, hrun, hkv], .inl rfl, ?_, h2 z.2 ((W1 ++ W2).map (·.2)) ?_⟩
    · exact Sat.mkIt (Z := Z) (V := V ++ [z]) (W := W1 ++ W2) g1 g2 g3 hp (by simp [g5]) (by simp [g6]) g7 g8 g9 (s2.rem (.there .here))
    · rw [g6, g2]
      have := hp.map (·.2)
      simpa using this
theorem entry_rule {r b : Nat} {kenc : α → Value} {venc : β → Value} {m vis : List (α × β)} {p : α × β} {K : Hp} {H H' : List HProp} {c : Value → Prop} (hr : Rem (MapIt kenc venc r b m (vis ++ [p])) H H')
    (h : c (.tuple #[kenc p.1, venc p.2])) : RStepS P (.entry (.pointer (some ⟨r, 0, none⟩))) K H c := by
  refine RStepS.mk _ (fun Γ w s => ?_) h
  obtain ⟨es, clock, seen, Z, V, W, g1, g2, g3, g4, g5, g6, g7, g8, g9, s0⟩ := (s.rem hr).mapIt
  have hb := s0.blk
  have hrb := (s0.rem (.there .here)).blk
  obtain ⟨V', z, rfl⟩ : ∃ V' z, V = V' ++ [z] := by
    rcases List.eq_nil_or_concat V with rfl | ⟨V', z, h⟩
    · simp at g6
    · exact ⟨V', z, by simpa using h⟩
  have hzp : z.2 = p := by
    simp only [List.map_append, List.map_cons, List.map_nil] at g6
    exact (List.append_inj' g6 rfl).2 |> fun h => by simpa using h.symm
  have hzZ : z ∈ Z := by rw [← g4.mem_iff]; simp
  have hs : seen = (V'.map (·.1.born)).toArray.push z.1.born := by
    apply Array.ext'; simp [g5]
  have hkv := g3 z hzZ
  subst hzp
  rw [hs] at hrb
  have := run_entry_at (P := P) w r b clock (V'.map (·.1.born)).toArray es clock z.1 hrb hb (by rw [g1]; exact List.mem_map.2 ⟨z, hzZ, rfl⟩) g8
  simp [M.sem, this, hkv]
end
/-- What a function over the orders of a list gives, if it is one thing. -/
noncomputable def perms {α β : Type} (m : List α) (F : List α → Option β) : Option β := open Classical in if h : ∃ r, ∀ l, l.Perm m → F l = some r then some h.choose else none
theorem perms_all {α β : Type} {m : List α} {F : List α → Option β} {r : β} (h : perms m F = some r) : ∀ l, l.Perm m → F l = some r := by
  unfold perms at h
  split at h
  · rename_i hx; cases h; exact hx.choose_spec
  · cases h
theorem perms_eq {α β : Type} {m : List α} {F : List α → Option β} {r : β} (h : ∀ l, l.Perm m → F l = some r) : perms m F = some r := by
  unfold perms
  have hx : ∃ r, ∀ l, l.Perm m → F l = some r := ⟨r, h⟩
  rw [dif_pos hx]
  have := hx.choose_spec m (.refl _)
  rw [h m (.refl _)] at this
  exact this.symm
def mfold {α σ : Type} (B : α → σ → Option σ) : List α → σ → Option σ
  | [], s => some s
  | x :: l, s => (B x s).bind (mfold B l)
theorem mfold_append {α σ : Type} {B : α → σ → Option σ} : ∀ {l k : List α} {s : σ}, mfold B (l ++ k) s = (mfold B l s).bind (mfold B k)
  | [], k, s => rfl
  | x :: l, k, s => by
    simp only [List.cons_append, mfold]
    cases B x s with
    | none => rfl
    | some t => exact mfold_append
theorem mfold_snoc {α σ : Type} {B : α → σ → Option σ} {l : List α} {p : α} {s t : σ} (h : mfold B l s = some t) : mfold B (l ++ [p]) s = B p t := by
  rw [mfold_append, h]
  show (B p t).bind (mfold B []) = B p t
  cases B p t <;> rfl
theorem mnext {α σ ρ : Type} {B : α → σ → Option σ} {C : σ → Option ρ} {m vis rest : List α} {p : α} {s t : σ} {r : ρ} (hP : ∀ l, l.Perm m → (mfold B l s).bind C = some r) (hv : mfold B vis s = some t) (hp : (vis ++ p :: rest).Perm m) : ∃ t', B p t = some t' := by
  have := hP _ hp
  rw [mfold_append, hv] at this
  cases hb : B p t with
  | some t' => exact ⟨t', rfl⟩
  | none => simp [mfold, hb] at this
theorem mlast {α σ ρ : Type} {B : α → σ → Option σ} {C : σ → Option ρ} {m : List α} {s t : σ} {r : ρ} (hP : ∀ l, l.Perm m → (mfold B l s).bind C = some r) (h : ∃ l, l.Perm m ∧ mfold B l s = some t) : C t = some r := by
  obtain ⟨l, h1, h2⟩ := h
  have := hP l h1
  rw [h2] at this; exact this
theorem ltmap {α : Type} {m vis rest : List α} {p : α} (hp : (vis ++ p :: rest).Perm m) : m.length - (vis ++ [p]).length < m.length - vis.length := by
  have := hp.length_eq
  simp at this ⊢; omega
section
variable {P : Program} {α : Type} {enc : α → List Value} {t e sz : Nat} {K : Hp} {H : List HProp} {c : VP}
theorem made_flat (z : List Value) (hz : 0 < z.length) : ∀ n, (madeCells z.toArray (n * z.length)).toList = (List.replicate n z).flatten
  | 0 => by simp [madeCells]
  | n + 1 => by
    have ih := made_flat z hz n
    rw [List.replicate_succ', List.flatten_append, ← ih]
    simp only [madeCells, List.flatten_cons, List.flatten_nil, List.append_nil, Array.toList_map, Array.toList_range, Nat.succ_mul, List.range_add, List.map_append, List.map_map]
    congr 1
    apply List.ext_getElem
    · simp
    · intro i h1 h2
      simp only [List.length_map, List.length_range] at h1
      simp [Nat.mod_eq_of_lt h2, getElem!_pos, h2]
theorem mk_slice {z : Value} {n : Int} (x0 : α) (T : ElT P t e sz) (hz : tyZeroV P e = some z) (hx : z.cells.toList = enc x0) (ho : allOne (enc x0) = true) (hn : 0 ≤ n ∧ n ≤ (lim : Int))
    (h : ∀ b, c (.slice (some ⟨b, 0, none⟩) n.toNat n.toNat) K (OwnL enc (some ⟨b, 0, none⟩) e sz n.toNat (List.replicate n.toNat x0) :: H)) : WStep P (.makeSlice t (.int .i64 n) (.int .i64 n)) K H c := by
  obtain ⟨ht, hsz, ⟨z', hz', hzs⟩, hpos, ⟨bytes, hby, hb2⟩⟩ := T
  obtain rfl : z = z' := by rw [hz] at hz'; exact Option.some.inj hz'
  obtain ⟨i, hi, hiz⟩ : ∃ i, P.info? e = some i ∧ i.zero = some z := by
    unfold tyZeroV at hz
    cases h : P.info? e with
    | none => simp [h] at hz
    | some i =>
      refine ⟨i, rfl, ?_⟩
      simp only [h] at hz
      cases h0 : i.zero with
      | none => simp [h0] at hz
      | some z' => simp [h0] at hz; rw [hz]
  have his : i.size = sz := by unfold tySize at hsz; simpa [hi] using hsz
  have hib : i.bytes = bytes := by unfold tyBytes at hby; simpa [hi] using hby
  have hl : (lim : Int) = 68719476736 := rfl
  have hcs : (enc x0).length = sz := by rw [← hx]; simpa using hzs
  refine ⟨fun Γ w s => ?_⟩
  have hrun := run_make (P := P) w t e i z ht hi hiz .i64 .i64 n n hn.1 (Int.le_refl _) (by rw [hib]; have : (bytes : Int) * n ≤ 2048 * 68719476736 := Int.mul_le_mul (by omega) (by omega) hn.1 (by omega); omega) (by omega)
  refine ⟨_, w.alloc (.cells (madeCells z.cells (n.toNat * i.size)) e), .slice (some ⟨w.heap.size, 0, none⟩) n.toNat n.toNat, K, _, by simp [M.sem, hrun], .inl rfl, ?_, h w.heap.size⟩
  have hml : maxLen = 9223372036854775807 := by decide
  have hmc : (madeCells z.cells (n.toNat * i.size)).toList = ((List.replicate n.toNat x0).map enc).flatten := by
    have := made_flat z.cells.toList (by rw [hx, hcs]; exact hpos) n.toNat
    rw [hx, hcs] at this
    rw [his, List.map_replicate, ← this]
    congr 2
    rw [← hx]
  refine (Sat.push s).mkOwn (fun l hl => ?_) (fun l hl => ?_) ?_ (by simp) (by rw [hml]; omega) (fun j v hj => ?_)
  · obtain ⟨x, hx', rfl⟩ := List.mem_map.1 hl
    rw [List.eq_of_mem_replicate hx']; exact hcs
  · obtain ⟨x, hx', rfl⟩ := List.mem_map.1 hl
    rw [List.eq_of_mem_replicate hx']; exact allOne_spec ho
  · simp [madeCells, his]
  · rw [← Array.getElem?_toList, hmc]; exact hj
end
end Go.SL
