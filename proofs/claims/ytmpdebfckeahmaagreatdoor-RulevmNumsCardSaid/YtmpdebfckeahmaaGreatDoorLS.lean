/- The library: facts about walks, over any program. -/
import Derived.Test.YtmpdebfckeahmaaGreatDoorLR
import Derived.Lib.LaidTab
set_option linter.unusedVariables false
set_option linter.unusedSimpArgs false
set_option linter.unusedSectionVars false
set_option linter.unusedVariables false
set_option linter.unusedSimpArgs false
namespace Go.SL
open Go
section
variable {P : Program} {α : Type} {enc : α → List Value} {K : Hp} {H H' : List HProp}
theorem ba_lt {l : List α} {i : Int} {x : α} {n : Nat} (hl : l.length = n) (h0 : 0 ≤ i) (hk : l[i.toNat]? = some x) : i < (n : Int) := by
 have := (List.getElem?_eq_some_iff.1 hk).1
 omega
theorem flat_get {l : List α} {sz i o : Nat} {x : α} (hs : ∀ y, (enc y).length = sz) (hx : l[i]? = some x) (ho : o < sz) : (l.map enc).flatten[i * sz + o]? = (enc x)[o]? := by
 induction l generalizing i with
 | nil => cases hx
 | cons y l ih =>
  cases i with
  | zero =>
   cases hx
   rw [List.map_cons, List.flatten_cons, Nat.zero_mul, Nat.zero_add, List.getElem?_append_left (by rw [hs]; exact ho)]
  | succ i =>
   rw [List.map_cons, List.flatten_cons, List.getElem?_append_right (by rw [hs, Nat.succ_mul]; omega), hs]
   rw [show (i + 1) * sz + o - sz = i * sz + o by rw [Nat.succ_mul]; omega]
   exact ih (by simpa using hx)
theorem ld_ba {t b off sz : Nat} {T : TypeId} {cs : List Value} {l : List α} {i : Nat} {x : α} {c : Value → Prop} (hr : Rem (Cells b T cs) H H') (ht : tyShape P t = some (some sz))
  (hd : cs.drop off = (l.map enc).flatten) (hx : l[i]? = some x) (hs : (fun y => (enc y).length) = fun _ => sz) (h : c (.agg (enc x).toArray)) : RStepS P (.load t (.pointer (some ⟨b, off + i * sz, none⟩))) K H c := by
 have hs' : ∀ y, (enc y).length = sz := fun y => congrFun hs y
 refine ⟨_, fun Γ w s => ?_, h⟩
 have hb := (s.rem hr).blk
 have := run_loadVar_agg (P := P) (a := ⟨b, off + i * sz, none⟩) (w := w) ht (hs' x) (fun j v hj => by
  have hj' : j < sz := by rw [← hs' x]; exact (List.getElem?_eq_some_iff.1 hj).1
  rw [addr_add, cell_blk hb]
  have h1 := flat_get hs' hx hj'
  rw [← hd, List.getElem?_drop] at h1
  rw [Nat.add_assoc, h1]; exact hj)
 simp [M.sem, Instr.loadAt, Instr.sureAddr, this]
theorem splice_td : ∀ (off : Nat) (vs cs : List Value), off + vs.length ≤ cs.length → splice off vs cs = cs.take off ++ (vs ++ cs.drop (off + vs.length))
 | 0, [], l, _ => by cases l <;> simp [splice]
 | 0, v :: vs, [], h => by simp at h
 | 0, v :: vs, x :: l, h => by
  have := splice_td 0 vs l (by simp at h ⊢; omega)
  simp only [splice, this]
  simp
 | i + 1, vs, [], h => by simp at h
 | i + 1, vs, x :: l, h => by
  have := splice_td i vs l (by simp at h ⊢; omega)
  simp only [splice, this]
  rw [show i + 1 + vs.length = (i + vs.length) + 1 by omega]
  simp
theorem flatE_len {l : List α} {sz : Nat} (hs : ∀ y, (enc y).length = sz) : (l.map enc).flatten.length = l.length * sz := by
 induction l with
 | nil => simp
 | cons y l ih => simp [hs, ih, Nat.succ_mul]; omega
theorem flat_set {l : List α} {sz i : Nat} {x y : α} (hs : ∀ y, (enc y).length = sz) (hx : l[i]? = some x) :
  (l.map enc).flatten.take (i * sz) ++ (enc y ++ (l.map enc).flatten.drop (i * sz + sz)) = ((l.set i y).map enc).flatten := by
 induction l generalizing i with
 | nil => cases hx
 | cons z l ih =>
  cases i with
  | zero =>
   simp only [Nat.zero_mul, List.take_zero, List.nil_append, Nat.zero_add, List.map_cons, List.flatten_cons, List.set_cons_zero]
   rw [List.drop_append_of_le_length (by rw [hs]; exact Nat.le_refl _), List.drop_of_length_le (by rw [hs]; exact Nat.le_refl _), List.nil_append]
  | succ i =>
   simp only [List.map_cons, List.flatten_cons, List.set_cons_succ]
   rw [← ih (by simpa using hx)]
   have e1 : (i + 1) * sz = (enc z).length + i * sz := by rw [hs, Nat.succ_mul]; omega
   have e2 : (i + 1) * sz + sz = (enc z).length + (i * sz + sz) := by rw [e1]; omega
   rw [e2, e1, List.take_length_add_append, List.drop_length_add_append, List.append_assoc]
theorem st_tl {t b off n : Nat} {T : TypeId} {cs cs' vs : List Value} {v : Value} {c : VP} (hr : Rem (Cells b T cs) H H') (ht : tySize P t = some n) (hv : v.cells.toList = vs) (ho : (Nat.beq n vs.length && allOne vs) = true) (hl : off + n ≤ cs.length)
  (hs : cs.take off ++ (vs ++ cs.drop (off + n)) = cs') (h : c undef K (Cells b T cs' :: H')) : WStep P (.store t (.pointer (some ⟨b, off, none⟩)) v) K H c := by
 simp only [Bool.and_eq_true] at ho
 have hn : n = vs.length := Nat.eq_of_beq_eq_true ho.1
 refine store_rule hr ht ?_
 rw [cellsL_eq, force_eq, hv]
 refine ⟨hn, ho.2, hl, ?_⟩
 rw [splice_td _ _ _ (by rw [← hn]; exact hl), ← hn, hs]
 exact h
theorem st_ba {t b off sz i : Nat} {T : TypeId} {cs cs' ys : List Value} {l : List α} {x y : α} {c : VP} (hr : Rem (Cells b T cs) H H') (ht : tySize P t = some sz)
  (hd : cs.drop off = (l.map enc).flatten) (hx : l[i]? = some x) (hy : enc y = ys) (hs : ∀ y, (enc y).length = sz) (ho : ∀ y, allOne (enc y) = true) (hc : cs' = cs.take off ++ ((l.set i y).map enc).flatten) (hz : 0 < sz)
  (h : c undef K (Cells b T cs' :: H')) : WStep P (.store t (.pointer (some ⟨b, off + i * sz, none⟩)) (.agg ys.toArray)) K H c := by
 subst hy
 have hlen : off + i * sz + sz ≤ cs.length := by
  have h1 := flatE_len (l := l) hs
  rw [← hd, List.length_drop] at h1
  have h2 := (List.getElem?_eq_some_iff.1 hx).1
  have h3 : (i + 1) * sz ≤ l.length * sz := Nat.mul_le_mul_right _ h2
  rw [Nat.succ_mul] at h3
  omega
 refine st_tl hr ht (vs := enc y) (by simp [Value.cells]) (by simp [hs, ho]) hlen ?_ h
 rw [hc, ← flat_set hs hx, ← hd, List.drop_drop, List.take_add, List.append_assoc, Nat.add_assoc]
abbrev CellsAt (b : Nat) (T : TypeId) (pre post cs : List Value) : HProp := Cells b T (pre ++ (cs ++ post))
theorem at_get {pre post cs : List Value} {j : Nat} {v : Value} (h : cs[j]? = some v) : (pre ++ (cs ++ post))[pre.length + j]? = some v := by
 rw [List.getElem?_append_right (by omega), Nat.add_sub_cancel_left, List.getElem?_append_left (List.getElem?_eq_some_iff.1 h).1]
 exact h
theorem fa_sub {s b j f o j' : Nat} {pre : List Value} {c : Value → Prop} (ho : fieldOff P s f = some o) (hj : j + o = j') (h : c (.pointer (some ⟨b, pre.length + j', none⟩))) : NStep P (.fieldAddr s (.pointer (some ⟨b, pre.length + j, none⟩)) f) c := by
 refine Ja ho ?_
 rw [forceN_eq, Nat.add_assoc, hj]
 exact h
theorem splice_at {pre post : List Value} : ∀ (j : Nat) (vs cs : List Value), j + vs.length ≤ cs.length → splice (pre.length + j) vs (pre ++ (cs ++ post)) = pre ++ (splice j vs cs ++ post) := by
 intro j vs cs h
 rw [splice_td _ _ _ (by simp; omega), splice_td _ _ _ h, List.take_append, List.take_of_length_le (by omega), Nat.add_sub_cancel_left, List.take_append_of_le_length (by omega), Nat.add_assoc, List.drop_append, List.drop_of_length_le (by omega), List.nil_append, Nat.add_sub_cancel_left, List.drop_append_of_le_length h]
 simp
theorem st_sub {t b j n : Nat} {T : TypeId} {pre post cs : List Value} {v : Value} {c : VP} (hr : Rem (CellsAt b T pre post cs) H H') (ht : tySize P t = some n)
  (h : cellsL v fun vs => n = vs.length ∧ allOne vs = true ∧ j + n ≤ cs.length ∧ force (splice j vs cs) fun cs' => c undef K (CellsAt b T pre post cs' :: H')) : WStep P (.store t (.pointer (some ⟨b, pre.length + j, none⟩)) v) K H c := by
 refine store_rule hr ht ?_
 rw [cellsL_eq, force_eq] at h ⊢
 obtain ⟨h1, h2, h3, h4⟩ := h
 refine ⟨h1, h2, by simp; omega, ?_⟩
 rw [splice_at _ _ _ (by rw [← h1]; exact h3)]
 exact h4
theorem ci1 {b : Nat} {T : TypeId} {cs pre suf : List Value} (hr : Rem (Cells b T cs) H H') (he : cs = pre ++ suf) : CIn [(b, pre)] H := by
 intro Γ K w s q hq
 obtain rfl := List.mem_singleton.1 hq
 have hb := (s.rem hr).blk
 exact ⟨_, _, _, hb, fun j v hv => by
  subst he
  have := (List.getElem?_eq_some_iff.1 hv).1
  simpa [List.getElem?_append_left this] using hv⟩
theorem loadn_c {t b off n : Nat} {pre : List Value} {d : DrI} {c : Value → Prop} (hm : (b, pre) ∈ d.cin) (ht : tyShape P t = some (some n))
  (hl : off + n ≤ pre.length) (h : forceN n fun n => force (cut off n pre) fun vs => c (.agg vs.toArray)) : LStep P (.load t (.pointer (some ⟨b, off, none⟩))) d c := by
 rw [forceN_eq, force_eq] at h
 refine ⟨.agg (cut off n pre).toArray, fun w hi => ?_, h⟩
 obtain ⟨cc, T, fz, hb, hc⟩ := hi.2.2 _ hm
 have hlen : (cut off n pre).length = n := by rw [cut_eq]; simp; omega
 have := run_loadVar_agg (P := P) (a := ⟨b, off, none⟩) (w := w) ht hlen (fun j v hj => by
  rw [addr_add]
  rw [cut_eq] at hj
  simp only [List.getElem?_take, List.getElem?_drop] at hj
  split at hj
  ·simp only [World.cell?, hb]; exact hc _ v hj
  ·cases hj)
 simp [M.sem, Instr.loadAt, Instr.sureAddr, this]
theorem buildK_pre {pl : List (Nat × Nat)} {k : List Value → Prop} {tl : List Value} : ∀ (ps : List (Nat × Value)) (acc : List Value), buildK pl ps acc (fun cs => k (cs ++ tl)) → buildK pl ps (acc ++ tl) k
 | [], acc, h => by
  simp only [buildK, force_eq] at h ⊢; exact h
 | (i, v) :: rest, acc, h => by
  simp only [buildK] at h ⊢
  have nth : ∀ (ql : List (Nat × Nat)) (j : Nat) (q q' : Nat × Nat → Prop), (∀ x, q x → q' x) → nthK ql j q → nthK ql j q' := by
   intro ql
   induction ql with
   | nil => intro j q q' _ h; exact h
   | cons y ql ih => intro j q q' hq h; cases j with
    | zero => exact hq _ h
    | succ j => exact ih j q q' hq h
  refine nth _ _ _ _ (fun p hp => ?_) h
  rw [cellsL_eq] at hp ⊢
  rcases condP_true hp with ⟨e, hp⟩ | ⟨_, hp⟩
  ·simp only [Bool.and_eq_true, decide_eq_true_eq] at e
   refine cond_t (by simp only [Bool.and_eq_true, decide_eq_true_eq, List.length_append]; omega) ?_
   rw [force_eq] at hp ⊢
   have hs : splice p.1 v.cells.toList (acc ++ tl) = splice p.1 v.cells.toList acc ++ tl := by
    rw [splice_td _ _ _ (by simp only [List.length_append]; omega), splice_td _ _ _ e.2, List.take_append_of_le_length (by omega), List.drop_append_of_le_length e.2]
    simp
   rw [hs]
   exact buildK_pre rest _ hp
  ·exact hp.elim
theorem build_tail {t : TypeId} {parts : List (Nat × Value)} {c : Value → Prop} (z0 : List Value) (l : List α) (hz : tyZeroV P t = some (.agg (z0 ++ (l.map enc).flatten).toArray)) (hst : match P.underlying t with | some (.struct fs) => fs.toList.all fun f => (tySize P f.type).isSome | _ => false)
  (h : buildK (places P t) parts z0 fun cs => c (.agg (cs ++ (l.map enc).flatten).toArray)) : NStep P (.build t parts) c :=
 build_struct hz hst (buildK_pre (k := fun cs => c (.agg cs.toArray)) parts z0 h)
theorem box_tail {t : TypeId} {cs : List Value} {c : VP} (h : ∀ b, c (.pointer (some ⟨b, 0, none⟩)) K (Cells b t cs :: H)) : WStep P (.box t (.agg cs.toArray)) K H c :=
 box_rule fun b => by rw [cellsL_eq]; exact h b
theorem ga_of_lv {W : World} {name : String} {g t e n : Nat} {k : IntKind} {zs : List Int} {rest : List (String × DataW Unit)} (hg : P.globalNamed name = some g) (hty : (P.globals[g]?).map (·.type) = some t) (ht : P.underlying t = some (.array n e)) (he : P.underlying e = some (.int k)) (hce : P.cellsOf e = 1) (hct : P.cellsOf t = n)
  (h : LV P W ((name, Lib.tabData k zs) :: rest)) : GlA g (zs.map fun z => Value.int k z) (old W) := by
 obtain ⟨ps, ⟨g', t', cs, fuel, p, q, hg', ht', hvar, hd, _, _⟩⟩ := h
 obtain rfl := Option.some.inj (hg.symm.trans hg')
 obtain rfl := Option.some.inj (hty.symm.trans ht')
 have hc := Lib.cells_of_tab ht he hce hct hd
 unfold World.var? at hvar
 rw [hg] at hvar
 simp only [Option.bind_some] at hvar
 cases hw : W.heap[g]? with
 | none => rw [hw] at hvar; cases hvar
 | some o =>
  rw [hw] at hvar
  cases o with
  | cells c T fz =>
   simp only [Option.some.injEq] at hvar
   subst hvar
   exact ⟨T, fz, by rw [← hc]; exact hw⟩
  | _ => cases hvar
end
end Go.SL
set_option linter.unusedVariables false
namespace Go.SL
open Go
section
variable {P : Program}
variable {K : Hp} {H H' : List HProp} {α : Type} {enc : α → List Value} {a : Option Addr} {t tx e ty sz cap : Nat} {l new : List α} {cs : Array Bool}
theorem RdC.clip (h : RdC enc K a cap sz l) : RdC enc K a l.length sz l := ⟨h.rd, Nat.le_refl _⟩
end
end Go.SL
