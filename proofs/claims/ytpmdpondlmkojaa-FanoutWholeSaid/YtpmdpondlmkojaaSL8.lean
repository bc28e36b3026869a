/- The rules, fourth part: maps. -/
import Derived.Test.YtpmdpondlmkojaaSL7
set_option linter.unusedVariables false
set_option linter.unusedSectionVars false
set_option linter.unusedSimpArgs false
namespace Go.SL
open Go

section
variable {P : Program} {α β : Type} [DecidableEq α]

/-- A key's type: how its keys are written as values. -/
structure KeyOK (P : Program) (kt : TypeId) (enc : α → Value) : Prop where
  check : ∀ (empty : Bool) (a : α) (w : World), (Instr.checkKey empty 10000 kt (enc a)).run P w = .ok () w
  same : ∃ d, P.underlying kt = some d ∧ ∀ a b : α, Instr.sameNow d (enc a) (enc b) = some (decide (a = b))
  bits : ∀ a : α, Instr.sameBits 10000 (enc a) (enc a) = true

abbrev strK (l : List UInt8) : Value := str l
abbrev intK (n : Int) : Value := .int .i64 n
theorem checkKey_plain {kt : TypeId} {d : TypeDesc} {v : Value} (n : Nat) (h : P.underlying kt = some d) (hd : match d with | .string | .int _ | .bool => true | _ => false) (empty : Bool) (w : World) :
    (Instr.checkKey empty (n + 1) kt v).run P w = .ok () w := by
  cases d <;> simp_all <;> simp [Instr.checkKey, run_underlying h]
theorem ba_beq (a b : List UInt8) : ((⟨a.toArray⟩ : ByteArray) == ⟨b.toArray⟩) = decide (a = b) := by
  have : ((⟨a.toArray⟩ : ByteArray) == ⟨b.toArray⟩) = (a.toArray == b.toArray) := rfl
  rw [this]
  by_cases h : a = b
  · simp [h]
  · simp [h]
theorem key_str {kt : TypeId} (h : P.underlying kt = some .string) : KeyOK P kt strK :=
  ⟨fun e a w => checkKey_plain 9999 h rfl e w, ⟨_, h, fun a b => by
    simp only [Instr.sameNow, ba_beq]⟩, fun a => by
    have : ∀ n, Instr.sameBits n (strK a) (strK a) = true := fun n => by cases n <;> simp [Instr.sameBits, ba_beq]
    exact this 10000⟩
theorem key_int {kt : TypeId} {k : IntKind} (h : P.underlying kt = some (.int k)) : KeyOK P kt (fun n : Int => .int k n) :=
  ⟨fun e a w => checkKey_plain 9999 h rfl e w, ⟨_, h, fun a b => by
    simp only [Instr.sameNow, if_true]
    congr 1⟩, fun a => by
    have : ∀ n, Instr.sameBits n (.int k a) (.int k a) = true := fun n => by cases n <;> simp [Instr.sameBits]
    exact this 10000⟩

/-! ### maps as lists of pairs -/
def mget (m : List (α × β)) (k : α) : Option β := (m.find? fun p => decide (p.1 = k)).map (·.2)
def mset (m : List (α × β)) (k : α) (v : β) : List (α × β) :=
  match mget m k with
  | some _ => m.map fun p => if p.1 = k then (k, v) else p
  | none => m ++ [(k, v)]
def mdel (m : List (α × β)) (k : α) : List (α × β) := m.filter fun p => !decide (p.1 = k)

@[simp] theorem mget_nil (k : α) : mget ([] : List (α × β)) k = none := rfl
theorem mget_cons (p : α × β) (m : List (α × β)) (k : α) : mget (p :: m) k = if p.1 = k then some p.2 else mget m k := by
  simp only [mget, List.find?_cons]
  by_cases h : p.1 = k <;> simp [h]
theorem mget_append (m l : List (α × β)) (k : α) : mget (m ++ l) k = (mget m k).or (mget l k) := by
  induction m with
  | nil => simp
  | cons p m ih => simp only [List.cons_append, mget_cons, ih]; split <;> simp
theorem mget_map_other (m : List (α × β)) (k j : α) (v : β) (h : j ≠ k) : mget (m.map fun p => if p.1 = k then (k, v) else p) j = mget m j := by
  induction m with
  | nil => rfl
  | cons p m ih =>
    simp only [List.map_cons, mget_cons, ih]
    by_cases h1 : p.1 = k
    · have : ¬ k = j := fun e => h e.symm
      have h2 : ¬ p.1 = j := fun e => h (e.symm.trans h1)
      simp [h1, this]
    · simp [h1]
theorem mget_map_same (m : List (α × β)) (k : α) (v : β) (h : (mget m k).isSome) : mget (m.map fun p => if p.1 = k then (k, v) else p) k = some v := by
  induction m with
  | nil => simp at h
  | cons p m ih =>
    simp only [List.map_cons, mget_cons]
    by_cases h1 : p.1 = k
    · simp [h1]
    · simp only [h1, if_false]
      exact ih (by simpa [mget_cons, h1] using h)
theorem mget_mset (m : List (α × β)) (k j : α) (v : β) : mget (mset m k v) j = if k = j then some v else mget m j := by
  unfold mset
  cases hk : mget m k with
  | some x =>
    simp only []
    by_cases h : k = j
    · subst h; rw [mget_map_same m k v (by simp [hk])]; simp
    · rw [mget_map_other m k j v (fun e => h e.symm)]; simp [h]
  | none =>
    simp only [mget_append, mget_cons, mget_nil]
    by_cases h : k = j
    · subst h; simp [hk]
    · simp [h]
theorem mget_mdel (m : List (α × β)) (k j : α) : mget (mdel m k) j = if k = j then none else mget m j := by
  induction m with
  | nil => simp [mdel]
  | cons p m ih =>
    unfold mdel at ih ⊢
    rw [List.filter_cons]
    by_cases h1 : p.1 = k
    · simp only [h1, decide_true, Bool.not_true, Bool.false_eq_true, if_false, ih, mget_cons]
      split <;> rfl
    · simp only [h1, decide_false, Bool.not_false, if_true, mget_cons, ih]
      by_cases h2 : k = j
      · subst h2; simp [h1]
      · simp [h2]
theorem mget_none_iff (m : List (α × β)) (k : α) : mget m k = none ↔ k ∉ m.map (·.1) := by
  induction m with
  | nil => simp
  | cons p m ih =>
    rw [mget_cons]
    by_cases h : p.1 = k
    · simp [h]
    · simp only [h, if_false, ih, List.map_cons, List.mem_cons, not_or]
      exact ⟨fun x => ⟨fun e => h e.symm, x⟩, fun x => x.2⟩
theorem mget_mem {m : List (α × β)} {k : α} {v : β} (h : mget m k = some v) : (k, v) ∈ m := by
  induction m with
  | nil => simp at h
  | cons p m ih =>
    rw [mget_cons] at h
    split at h
    · rename_i e; simp only [Option.some.injEq] at h; rw [← e, ← h]; simp
    · exact List.mem_cons_of_mem _ (ih h)
theorem mget_of_mem {m : List (α × β)} (hn : (m.map (·.1)).Nodup) {k : α} {v : β} (h : (k, v) ∈ m) : mget m k = some v := by
  induction m with
  | nil => cases h
  | cons p m ih =>
    simp only [List.map_cons, List.nodup_cons] at hn
    rw [mget_cons]
    rcases List.mem_cons.1 h with rfl | h
    · simp
    · rw [if_neg]
      · exact ih hn.2 h
      · intro e; exact hn.1 (List.mem_map.2 ⟨_, h, by simpa using e.symm⟩)
theorem mset_keys (m : List (α × β)) (k : α) (v : β) : (mset m k v).map (·.1) = if k ∈ m.map (·.1) then m.map (·.1) else m.map (·.1) ++ [k] := by
  unfold mset
  cases h : mget m k with
  | some x =>
    have : k ∈ m.map (·.1) := Classical.byContradiction fun hn => by rw [(mget_none_iff m k).2 hn] at h; cases h
    simp only [this, if_true, List.map_map]
    refine List.map_congr_left fun p _ => ?_
    simp only [Function.comp]
    split
    · rename_i e; exact e.symm
    · rfl
  | none => simp [(mget_none_iff m k).1 h]
theorem mset_nodup {m : List (α × β)} (hn : (m.map (·.1)).Nodup) (k : α) (v : β) : ((mset m k v).map (·.1)).Nodup := by
  rw [mset_keys]
  split
  · exact hn
  · rename_i h
    rw [List.nodup_append]
    exact ⟨hn, by simp, by rintro a ha b hb rfl; simp at hb; subst hb; exact h ha⟩
theorem mdel_nodup {m : List (α × β)} (hn : (m.map (·.1)).Nodup) (k : α) : ((mdel m k).map (·.1)).Nodup :=
  List.Nodup.sublist (List.Sublist.map _ List.filter_sublist) hn

/-- The map in block 'b' has these pairs, in the order in which their keys came. -/
def MapE (kenc : α → Value) (venc : β → Value) (b : Nat) (m : List (α × β)) : HProp := fun h =>
  ∃ es clock, h b = some (.map es clock) ∧ es.toList.map (fun e => (e.key, e.val)) = m.map (fun p => (kenc p.1, venc p.2)) ∧ (m.map (·.1)).Nodup ∧ (es.toList.map (·.born)).Nodup ∧ ∀ e ∈ es.toList, e.born < clock

theorem Sat.mapE {Γ : World} {K : Hp} {kenc : α → Value} {venc : β → Value} {b : Nat} {m : List (α × β)} {H : List HProp} {w : World} (s : Sat Γ K (MapE kenc venc b m :: H) w) :
    ∃ es clock, es.toList.map (fun e => (e.key, e.val)) = m.map (fun p => (kenc p.1, venc p.2)) ∧ (m.map (·.1)).Nodup ∧ (es.toList.map (·.born)).Nodup ∧ (∀ e ∈ es.toList, e.born < clock) ∧ Sat Γ K (Blk b (.map es clock) :: H) w := by
  obtain ⟨h, d, ⟨h1, h2, d12, l1, l2, ⟨es, clock, hb, g⟩, rest⟩, y⟩ := s.heap
  exact ⟨es, clock, g.1, g.2.1, g.2.2.1, g.2.2.2, s.os, s.tape, s.output, s.know, h, d, ⟨h1, h2, d12, l1, l2, hb, rest⟩, y⟩
theorem Sat.mkMap {Γ : World} {K : Hp} {kenc : α → Value} {venc : β → Value} {b : Nat} {m : List (α × β)} {H : List HProp} {w : World} {es : Array MapEntry} {clock : Nat} (s : Sat Γ K (Blk b (.map es clock) :: H) w)
    (h1 : es.toList.map (fun e => (e.key, e.val)) = m.map (fun p => (kenc p.1, venc p.2))) (h2 : (m.map (·.1)).Nodup) (h3 : (es.toList.map (·.born)).Nodup) (h4 : ∀ e ∈ es.toList, e.born < clock) : Sat Γ K (MapE kenc venc b m :: H) w :=
  s.conv fun h ⟨x1, x2, d, l1, l2, hb, rest⟩ => ⟨x1, x2, d, l1, l2, ⟨es, clock, hb, h1, h2, h3, h4⟩, rest⟩

theorem run_getObj {w : World} {b : Nat} {o : Obj} (h : w.heap[b]? = some o) (hc : ∀ c e f, o ≠ .cells c e f) : (getObj b).run P w = .ok o w := by
  cases o <;> simp_all [getObj, Sem.run]
theorem run_setObj {w : World} {b : Nat} {o o' : Obj} (h : w.heap[b]? = some o) (hc : ∀ c e f, o ≠ .cells c e f) : (setObj b o').run P w = .ok () { w with heap := w.heap.setIfInBounds b o' } := by
  cases o <;> simp_all [setObj, Sem.run]

theorem findNow_spec {kt : TypeId} {kenc : α → Value} {venc : β → Value} {d : TypeDesc} (hk : ∀ a b : α, Instr.sameNow d (kenc a) (kenc b) = some (decide (a = b))) (k : α) : ∀ (es : List MapEntry) (m : List (α × β)) (i : Nat),
    es.map (fun e => (e.key, e.val)) = m.map (fun p => (kenc p.1, venc p.2)) →
    Instr.findNow d (kenc k) es i = some (match m.findIdx? (fun p => decide (p.1 = k)), mget m k with
      | some j, some x => some (i + j, venc x)
      | _, _ => none)
  | [], [], i, _ => by simp [Instr.findNow]
  | [], _ :: _, i, h => by simp at h
  | _ :: _, [], i, h => by simp at h
  | e :: es, p :: m, i, h => by
    simp only [List.map_cons, List.cons.injEq, Prod.mk.injEq] at h
    obtain ⟨⟨h1, h2⟩, h3⟩ := h
    simp only [Instr.findNow, h1, hk, mget_cons, List.findIdx?_cons]
    by_cases hp : k = p.1
    · subst hp; simp [h2]
    · have hp' : ¬ p.1 = k := fun e => hp e.symm
      simp only [hp, hp', decide_false, Bool.false_eq_true, if_false]
      rw [findNow_spec (kt := kt) hk k es m (i + 1) h3]
      cases hf : m.findIdx? (fun p => decide (p.1 = k)) with
      | none => simp
      | some j =>
        cases hg : mget m k with
        | none => simp
        | some x => simp; omega

theorem findIdx_mget (m : List (α × β)) (k : α) : (m.findIdx? (fun p => decide (p.1 = k))).isSome = (mget m k).isSome := by
  induction m with
  | nil => rfl
  | cons p m ih =>
    rw [List.findIdx?_cons, mget_cons]
    by_cases h : p.1 = k
    · simp [h]
    · simp [h, ih]

theorem run_findKey {kt : TypeId} {kenc : α → Value} {venc : β → Value} (hk : KeyOK P kt kenc) {es : Array MapEntry} {m : List (α × β)} (he : es.toList.map (fun e => (e.key, e.val)) = m.map (fun p => (kenc p.1, venc p.2))) (k : α) (w : World) :
    (Instr.findKey kt (kenc k) es.toList).run P w = .ok (match m.findIdx? (fun p => decide (p.1 = k)), mget m k with
      | some j, some x => some (j, venc x)
      | _, _ => none) w := by
  obtain ⟨d, hd, hs⟩ := hk.same
  simp only [Instr.findKey, Sem.run_bind, run_underlying hd, Result.andThen_ok]
  rw [findNow_spec (kt := kt) hs k es.toList m 0 he]
  simp

theorem lookup_rule {t kt et b : Nat} {kenc : α → Value} {venc : β → Value} {m : List (α × β)} {k : α} {z : β} {K : Hp} {H H' : List HProp} {c : Value → Prop} (hr : Rem (MapE kenc venc b m) H H')
    (ht : P.underlying t = some (.map kt et)) (hz : tyZeroV P et = some (venc z)) (hk : KeyOK P kt kenc) (h : c (venc ((mget m k).getD z))) :
    RStepS P (.lookup t (.map (some b)) (kenc k) false) K H c := by
  refine RStepS.mk _ (fun Γ w s => ?_) h
  obtain ⟨es, clock, g1, g2, g3, g4, s'⟩ := (s.rem hr).mapE
  have hf := run_findKey hk g1 k w
  have hg := run_getObj (P := P) s'.blk (by simp)
  simp only [M.sem, Instr.lookup, Sem.run_bind, run_underlying ht, Result.andThen_ok, hg, hk.check, Sem.run_pure, hf]
  have hfi := findIdx_mget m k
  cases hm : mget m k with
  | none =>
    rw [hm] at hfi
    have : m.findIdx? (fun p => decide (p.1 = k)) = none := Option.not_isSome_iff_eq_none.1 (by rw [hfi]; simp)
    simp [this, run_zero' hz]
  | some x =>
    rw [hm] at hfi
    obtain ⟨j, hj⟩ := Option.isSome_iff_exists.1 hfi
    simp [hj]
theorem lookup_ok {t kt et b : Nat} {kenc : α → Value} {venc : β → Value} {m : List (α × β)} {k : α} {z : β} {K : Hp} {H H' : List HProp} {c : Value → Prop} (hr : Rem (MapE kenc venc b m) H H')
    (ht : P.underlying t = some (.map kt et)) (hz : tyZeroV P et = some (venc z)) (hk : KeyOK P kt kenc) (h : c (.tuple #[venc ((mget m k).getD z), .bool (mget m k).isSome])) :
    RStepS P (.lookup t (.map (some b)) (kenc k) true) K H c := by
  refine RStepS.mk _ (fun Γ w s => ?_) h
  obtain ⟨es, clock, g1, g2, g3, g4, s'⟩ := (s.rem hr).mapE
  have hf := run_findKey hk g1 k w
  have hg := run_getObj (P := P) s'.blk (by simp)
  simp only [M.sem, Instr.lookup, Sem.run_bind, run_underlying ht, Result.andThen_ok, hg, hk.check, Sem.run_pure, hf]
  have hfi := findIdx_mget m k
  cases hm : mget m k with
  | none =>
    rw [hm] at hfi
    have : m.findIdx? (fun p => decide (p.1 = k)) = none := Option.not_isSome_iff_eq_none.1 (by rw [hfi]; simp)
    simp [this, run_zero' hz]
  | some x =>
    rw [hm] at hfi
    obtain ⟨j, hj⟩ := Option.isSome_iff_exists.1 hfi
    simp [hj]

theorem Sat.setMap {Γ : World} {K : Hp} {b : Nat} {o o' : Obj} {H : List HProp} {w : World} (s : Sat Γ K (Blk b o :: H) w) : Sat Γ K (Blk b o' :: H) { w with heap := w.heap.setIfInBounds b o' } := by
  have hb := (Array.getElem?_eq_some_iff.1 s.blk).1
  exact s.upd rfl rfl rfl (by simp [hb]) fun i hi => by simp [Array.getElem?_setIfInBounds]; intro e; exact absurd e.symm hi

theorem findIdx_set (m : List (α × β)) (k : α) (v : β) (hn : (m.map (·.1)).Nodup) : ∀ j, m.findIdx? (fun p => decide (p.1 = k)) = some j → m.modify j (fun p => (k, v)) = m.map fun p => if p.1 = k then (k, v) else p := by
  induction m with
  | nil => intro j h; simp at h
  | cons p m ih =>
    intro j h
    simp only [List.map_cons, List.nodup_cons] at hn
    rw [List.findIdx?_cons] at h
    by_cases hp : p.1 = k
    · simp only [hp, decide_true, if_true, Option.some.injEq] at h
      subst h
      simp only [List.modify_zero_cons, List.map_cons, hp, if_true]
      congr 1
      have : ∀ q ∈ m, ¬ q.1 = k := fun q hq e => hn.1 (List.mem_map.2 ⟨q, hq, by rw [e, hp]⟩)
      rw [List.map_congr_left (g := id) fun q hq => by simp [this q hq]]
      simp
    · simp only [hp, decide_false, Bool.false_eq_true, if_false] at h
      cases hj : m.findIdx? (fun p => decide (p.1 = k)) with
      | none => simp [hj] at h
      | some i =>
        simp [hj] at h; subst h
        simp only [List.modify_succ_cons, List.map_cons, hp, if_false]
        rw [ih hn.2 i hj]
theorem findIdx_del (m : List (α × β)) (k : α) (hn : (m.map (·.1)).Nodup) : ∀ j, m.findIdx? (fun p => decide (p.1 = k)) = some j → m.eraseIdx j = mdel m k := by
  induction m with
  | nil => intro j h; simp at h
  | cons p m ih =>
    intro j h
    simp only [List.map_cons, List.nodup_cons] at hn
    rw [List.findIdx?_cons] at h
    unfold mdel at ih ⊢
    rw [List.filter_cons]
    by_cases hp : p.1 = k
    · simp only [hp, decide_true, if_true, Option.some.injEq] at h
      subst h
      have : ∀ q ∈ m, (!decide (q.1 = k)) = true := fun q hq => by
        have : ¬ q.1 = k := fun e => hn.1 (List.mem_map.2 ⟨q, hq, by rw [e, hp]⟩)
        simp [this]
      simp only [List.eraseIdx_zero, List.tail_cons, hp, decide_true, Bool.not_true, Bool.false_eq_true, if_false]
      exact (List.filter_eq_self.2 this).symm
    · simp only [hp, decide_false, Bool.false_eq_true, if_false] at h
      cases hj : m.findIdx? (fun p => decide (p.1 = k)) with
      | none => simp [hj] at h
      | some i =>
        simp [hj] at h; subst h
        simp only [List.eraseIdx_cons_succ, hp, decide_false, Bool.not_false, if_true]
        rw [ih hn.2 i hj]

theorem update_rule {t kt et b : Nat} {kenc : α → Value} {venc : β → Value} {m : List (α × β)} {k : α} (v : β) {x : Value} {K : Hp} {H H' : List HProp} {c : VP} (hx : x = venc v) (hr : Rem (MapE kenc venc b m) H H')
    (ht : P.underlying t = some (.map kt et)) (hk : KeyOK P kt kenc) (h : c undef K (MapE kenc venc b (mset m k v) :: H')) :
    WStep P (.mapUpdate t (.map (some b)) (kenc k) x) K H c := by
  subst hx
  refine ⟨fun Γ w s => ?_⟩
  obtain ⟨es, clock, g1, g2, g3, g4, s'⟩ := (s.rem hr).mapE
  have hf := run_findKey hk g1 k w
  have hg := run_getObj (P := P) s'.blk (by simp)
  have hfi := findIdx_mget m k
  cases hm : mget m k with
  | none =>
    rw [hm] at hfi
    have hj : m.findIdx? (fun p => decide (p.1 = k)) = none := Option.not_isSome_iff_eq_none.1 (by rw [hfi]; simp)
    refine ⟨.skip, { w with heap := w.heap.setIfInBounds b (.map (es.push { key := kenc k, val := venc v, born := clock }) (clock + 1)) }, undef, K, _, ?_, .inr ⟨rfl, rfl⟩, ?_, h⟩
    rotate_left
    · refine Sat.mkMap (es := es.push { key := kenc k, val := venc v, born := clock }) (clock := clock + 1) s'.setMap ?_ (mset_nodup g2 k v) ?_ ?_
      · simp [mset, hm, g1]
      · simp only [Array.toList_push, List.map_append, List.map_cons, List.map_nil]
        rw [List.nodup_append]
        refine ⟨g3, by simp, ?_⟩
        rintro a ha b hb rfl
        simp at hb
        obtain ⟨e, he, rfl⟩ := List.mem_map.1 ha
        have := g4 e he
        omega
      · intro e he
        simp only [Array.toList_push, List.mem_append, List.mem_singleton] at he
        rcases he with he | rfl
        · have := g4 e he; omega
        · simp
    · have hso := run_setObj (P := P) (o' := .map (es.push { key := kenc k, val := venc v, born := clock }) (clock + 1)) s'.blk (by simp)
      simp only [M.sem, Instr.mapUpdate, Sem.run_bind, run_underlying ht, Result.andThen_ok, hg, hk.check, hf, hj, hso, Sem.run_pure]
  | some y =>
    rw [hm] at hfi
    obtain ⟨j, hj⟩ := Option.isSome_iff_exists.1 hfi
    have hjlt : j < m.length := (List.findIdx?_eq_some_iff_getElem.1 hj).1
    have hlen : es.toList.length = m.length := by simpa using congrArg List.length g1
    have hkey : (es[j]?).map (·.key) = some (kenc k) := by
      have h1 := congrArg (fun l => (l[j]?).map Prod.fst) g1
      simp only [List.getElem?_map, Option.map_map] at h1
      have h2 : m[j]? = some m[j] := List.getElem?_eq_getElem hjlt
      have h3 := (List.findIdx?_eq_some_iff_getElem.1 hj).2.1
      simp only [decide_eq_true_eq] at h3
      have h4 : (es.toList[j]?).map (·.key) = some (kenc k) := by
        rw [h2] at h1
        simpa [Function.comp_def, h3] using h1
      simpa using h4
    have hks : (((es[j]?).map (·.key)).getD (kenc k)) = kenc k := by rw [hkey]; rfl
    have hstay : (Instr.keyThatStays (kenc k) (kenc k)).run P w = .ok (kenc k) w := by simp [Instr.keyThatStays, hk.bits]
    refine ⟨.skip, { w with heap := w.heap.setIfInBounds b (.map (es.modify j fun e => { e with key := kenc k, val := venc v }) clock) }, undef, K, _, ?_, .inr ⟨rfl, rfl⟩, ?_, h⟩
    rotate_left
    · refine Sat.mkMap (es := es.modify j fun e => { e with key := kenc k, val := venc v }) (clock := clock) s'.setMap ?_ (mset_nodup g2 k v) ?_ ?_
      · have e1 : (mset m k v) = m.modify j (fun p => (k, v)) := by simp [mset, hm, findIdx_set m k v g2 j hj]
        rw [e1, Array.toList_modify]
        rw [show (List.modify (es.toList) j fun e => ({ e with key := kenc k, val := venc v } : MapEntry)).map (fun e => (e.key, e.val)) = (es.toList.map (fun e => (e.key, e.val))).modify j (fun _ => (kenc k, venc v)) from by
          apply List.ext_getElem?; intro i; simp only [List.getElem?_map, List.getElem?_modify]; cases es.toList[i]? <;> simp; split <;> simp]
        rw [g1]
        apply List.ext_getElem?; intro i; simp only [List.getElem?_map, List.getElem?_modify]; cases m[i]? <;> simp; split <;> simp
      · rw [Array.toList_modify]
        rw [show (List.modify (es.toList) j fun e => ({ e with key := kenc k, val := venc v } : MapEntry)).map (·.born) = es.toList.map (·.born) from by
          apply List.ext_getElem?; intro i; simp only [List.getElem?_map, List.getElem?_modify]; cases es.toList[i]? <;> simp; split <;> rfl]
        exact g3
      · intro e he
        rw [Array.toList_modify] at he
        obtain ⟨i, hi⟩ := List.getElem?_of_mem he
        rw [List.getElem?_modify] at hi
        cases hx : es.toList[i]? with
        | none => simp [hx] at hi
        | some e0 =>
          have := g4 e0 (List.mem_of_getElem? hx)
          rw [hx] at hi
          simp only [Option.map_eq_map, Option.map_some, Option.some.injEq] at hi
          subst hi
          split <;> exact this
    · have hso := run_setObj (P := P) (o' := .map (es.modify j fun e => { e with key := kenc k, val := venc v }) clock) s'.blk (by simp)
      simp only [M.sem, Instr.mapUpdate, Sem.run_bind, run_underlying ht, Result.andThen_ok, hg, hk.check, hf, hj, hm, hks, hstay, hso, Sem.run_pure]

theorem delete_rule {t kt et ty b : Nat} {ts : Array TypeId} {cs : Array Bool} {kenc : α → Value} {venc : β → Value} {m : List (α × β)} {k : α} {K : Hp} {H H' : List HProp} {c : VP} (hr : Rem (MapE kenc venc b m) H H')
    (hts : ts[0]? = some t) (ht : P.underlying t = some (.map kt et)) (hk : KeyOK P kt kenc) (h : c (.tuple #[]) K (MapE kenc venc b (mdel m k) :: H')) :
    WStep P (.builtin .delete ts ty cs [.map (some b), kenc k]) K H c := by
  refine ⟨fun Γ w s => ?_⟩
  obtain ⟨es, clock, g1, g2, g3, g4, s'⟩ := (s.rem hr).mapE
  have hf := run_findKey hk g1 k w
  have hg := run_getObj (P := P) s'.blk (by simp)
  have hfi := findIdx_mget m k
  cases hm : mget m k with
  | none =>
    rw [hm] at hfi
    have hj : m.findIdx? (fun p => decide (p.1 = k)) = none := Option.not_isSome_iff_eq_none.1 (by rw [hfi]; simp)
    have hd : mdel m k = m := by
      unfold mdel
      refine List.filter_eq_self.2 fun p hp => ?_
      have := (mget_none_iff m k).1 hm
      have : ¬ p.1 = k := fun e => this (List.mem_map.2 ⟨p, hp, e⟩)
      simp [this]
    refine ⟨_, { w with heap := w.heap.setIfInBounds b (.map es clock) }, .tuple #[], K, _, ?_, .inl rfl, ?_, h⟩
    rotate_left
    · rw [hd]
      exact Sat.mkMap (es := es) (clock := clock) s'.setMap g1 g2 g3 g4
    · have hso := run_setObj (P := P) (o' := .map es clock) s'.blk (by simp)
      simp [M.sem, Go.builtin, Builtin.delete_, hts, run_underlying ht, hg, hk.check, hf, hj, hso]
  | some y =>
    rw [hm] at hfi
    obtain ⟨j, hj⟩ := Option.isSome_iff_exists.1 hfi
    have hjlt : j < m.length := (List.findIdx?_eq_some_iff_getElem.1 hj).1
    have hlen : es.toList.length = m.length := by simpa using congrArg List.length g1
    refine ⟨_, { w with heap := w.heap.setIfInBounds b (.map (es.eraseIdxIfInBounds j) clock) }, .tuple #[], K, _, ?_, .inl rfl, ?_, h⟩
    rotate_left
    · refine Sat.mkMap (es := es.eraseIdxIfInBounds j) (clock := clock) s'.setMap ?_ (mdel_nodup g2 k) ?_ ?_
      · rw [Array.toList_eraseIdxIfInBounds, ← findIdx_del m k g2 j hj]
        have := congrArg (fun l => List.eraseIdx l j) g1
        have em : ∀ {γ δ : Type} (f : γ → δ) (l : List γ) (j : Nat), (l.eraseIdx j).map f = (l.map f).eraseIdx j := by
          intro γ δ f l
          induction l with
          | nil => intro j; simp
          | cons x l ih => intro j; cases j <;> simp [ih]
        rw [em, em]
        exact this
      · rw [Array.toList_eraseIdxIfInBounds]
        exact List.Nodup.sublist (List.Sublist.map _ (List.eraseIdx_sublist _ _)) g3
      · intro e he
        rw [Array.toList_eraseIdxIfInBounds] at he
        exact g4 e ((List.eraseIdx_sublist _ _).subset he)
    · have hso := run_setObj (P := P) (o' := .map (es.eraseIdxIfInBounds j) clock) s'.blk (by simp)
      simp [M.sem, Go.builtin, Builtin.delete_, hts, run_underlying ht, hg, hk.check, hf, hj, hm, hso]

theorem makeMap_rule {t : Nat} (kenc : α → Value) (venc : β → Value) {K : Hp} {H : List HProp} {c : VP} (h : ∀ b, c (.map (some b)) K (MapE kenc venc b [] :: H)) : WStep P (.makeMap t none) K H c := by
  refine ⟨fun Γ w s => ?_⟩
  refine ⟨_, { w with heap := w.heap.push (.map #[] 0) }, .map (some w.heap.size), K, _, by simp [M.sem, Instr.makeMap], .inl rfl, ?_, h w.heap.size⟩
  exact Sat.mkMap (es := #[]) (clock := 0) s.push (by simp) (by simp) (by simp) (by simp)

theorem len_map {t kt et ty b : Nat} {cs : Array Bool} {kenc : α → Value} {venc : β → Value} {m : List (α × β)} {K : Hp} {H H' : List HProp} {c : Value → Prop} (hr : Rem (MapE kenc venc b m) H H')
    (ht : P.underlying t = some (.map kt et)) (h : c (.int .i64 m.length)) : RStepS P (.builtin .len #[t] ty cs [.map (some b)]) K H c := by
  refine RStepS.mk _ (fun Γ w s => ?_) h
  obtain ⟨es, clock, g1, g2, g3, g4, s'⟩ := (s.rem hr).mapE
  have hg := run_getObj (P := P) s'.blk (by simp)
  have hlen : es.size = m.length := by simpa using congrArg List.length g1
  simp [M.sem, Go.builtin, Builtin.len_, run_underlying ht, hg, goInt, hlen]
end
end Go.SL
