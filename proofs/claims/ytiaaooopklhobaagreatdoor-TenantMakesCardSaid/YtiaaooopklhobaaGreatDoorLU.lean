/- The library: facts about walks, over any program. -/
import Derived.Test.YtiaaooopklhobaaGreatDoorLT
import Derived.Shelf.SlIter.Sorted
set_option linter.unusedVariables false
set_option linter.unusedSimpArgs false
set_option linter.unusedSectionVars false
namespace Go.SL
open Go Go.RowKit Go.MapKept Go.Proofs
section
variable {P : Program}
theorem Sat.newB {Γ : World} {K : Hp} {b : Nat} {o : Obj} {H : List HProp} {w w' : World} (s : Sat Γ K H w) (hb : Below w.heap.size w w') (hg : w.heap.size ≤ b) (ho : w'.heap[b]? = some o) : Sat Γ K (Blk b o :: H) w' := by
 have hw : ∀ (i : Nat) u, w.heap[i]? = some u → w'.heap[i]? = some u := fun i u hi => by rw [hb.block i (Array.getElem?_eq_some_iff.1 hi).1]; exact hi
 have hn : w.heap[b]? = none := Array.getElem?_eq_none hg
 obtain ⟨h, d, rest, y⟩ := s.heap
 have hKb : K b = none := by
  cases hx : K b with
  | none => rfl
  | some u => rw [s.know b u hx] at hn; cases hn
 have hbb : h b = none := by
  cases hx : h b with
  | none => rfl
  | some u => rw [y b u hx] at hn; cases hn
 have dd : Hp.Disj (Hp.one b o) h := fun i => by
  by_cases e : i = b
  ·subst e; exact .inr hbb
  ·exact .inl (by simp [Hp.one, e])
 refine ⟨hb.os.trans s.os, hb.tape.trans s.tape, hb.output.trans s.output, fun i u hi => hw i u (s.know i u hi), Hp.join (Hp.one b o) h, ?_, ⟨Hp.one b o, h, dd, Hp.Le.joinL _ _, Hp.Le.joinR dd, by simp [Blk, Hp.one], rest⟩, ?_⟩
 ·intro i
  by_cases e : i = b
  ·subst e; exact .inl hKb
  ·rcases d i with x | x
   ·exact .inl x
   ·exact .inr (by simp [Hp.join, Hp.one, e, x])
 ·intro i u hi
  by_cases e : i = b
  ·subst e
   simp [Hp.join, Hp.one] at hi
   subst hi; exact ho
  ·simp only [Hp.join, Hp.one, e, if_false] at hi
   exact hw i u (y i u hi)
def anyR : Value → Option (DataW Unit × List MemPlace) := fun _ => some (.nil, [])
theorem qpz {k : TypeId} {β : Type} (hk : P.underlying k = some .string) {es : List MapEntry} {m : List (Str × β)} {venc : β → Value} (he : es.map (fun e => (e.key, e.val)) = m.map (fun p => (strK p.1, venc p.2)))
  (hl : ∀ p ∈ m, p.1.length ≤ maxLen) : (∀ x ∈ es, ∃ y, WideElems.rd P k anyR x = some y) ∧ (es.map (WideElems.rg P k anyR)).map (fun p => strOf p.1) = m.map (·.1) := by
 induction es generalizing m with
 | nil => cases m with
  | nil => exact ⟨fun x h => (by cases h), rfl⟩
  | cons p m => simp at he
 | cons e es ih => cases m with
  | nil => simp at he
  | cons p m =>
   simp only [List.map_cons, List.cons.injEq, Prod.mk.injEq] at he
   obtain ⟨⟨h1, h2⟩, h3⟩ := he
   obtain ⟨i1, i2⟩ := ih h3 fun q hq => hl q (List.mem_cons_of_mem _ hq)
   have hp := hl p (List.mem_cons_self ..)
   have hr : WideElems.rd P k anyR e = some (.string p.1, .nil) := by
    unfold WideElems.rd
    rw [h1, show strK p.1 = .string ⟨p.1.toArray⟩ from rfl, Go.WideMaps.keyOf_string_mk hk (by simpa [ByteArray.size] using hp)]
    simp [anyR]
   refine ⟨fun x hx => ?_, ?_⟩
   ·rcases List.mem_cons.1 hx with rfl | hx
    ·exact ⟨_, hr⟩
    ·exact i1 x hx
   ·simp only [List.map_cons]
    rw [i2, WideElems.rg_of hr]
    rfl
def qnp {α : Type} (m : List (Str × α)) : Option Unit := some ()
theorem qry {f g : FuncId} {t : TypeId} (hc : ∀ a w, (callFunc f a).run P w = .ok (.enter f a) w)
  (h : ∀ (mb : Option Nat) (W : World), Calls P f #[.map mb] W fun e w' => e = .returned (.func (.func g) #[] #[.pointer (some ⟨W.heap.size, 0, none⟩)]) ∧ w' = W.alloc (.cells #[.map mb] t))
  {α β : Type} {me : List (Str × α)} {m : List (Str × β)} {r : Unit} {b : Nat} {K : Hp} {venc : α → Value} (hm : qnp m = some r) :
  Fn P f [.map (some b)] K [qhl strK venc b me] (fun v K' H' => ∃ B : Nat, v = .func (.func g) #[] #[.pointer (some ⟨B, 0, none⟩)] ∧ H' = [Cells B t [.map (some b)], qhl strK venc b me]) := by
 refine ⟨hc, fun F Γ w s => ?_⟩
 refine (h (some b) w).mono fun e w' ⟨g1, g2⟩ => ?_
 subst g2
 exact ⟨_, K, _, g1, .refl _, ⟨_, rfl, rfl⟩, s.push⟩
def qp0 (l : List Str) : Option (List Str) := if l.length ≤ lim ∧ l.all (fun s => decide (s.length ≤ lim)) = true then some (sortS l) else none
def qlf {α : Type} (m : List (Str × α)) : Option (List Str) := qp0 (m.map (·.1))
theorem MR.keys {β : Type} {R : Rp β} {K : Hp} {me : List (Str × EnD β)} {m : List (Str × β)} (h : MR R K me m) : me.map (·.1) = m.map (·.1) := by
 rw [← h.eq, List.map_map]; rfl
theorem qon {f g : FuncId} {t k e : TypeId} (hc : ∀ a w, (callFunc f a).run P w = .ok (.enter f a) w) (hk : P.underlying k = some .string)
  (h : ∀ (B b n : Nat) (D : DataW Unit) (w : World), B < w.heap.size → w.cell? ⟨B, 0, none⟩ = some (.map (some b)) → w.ownsMap P k anyR b n D → Maps.size D ≤ maxLen → Maps.size D * 16 ≤ 140737488355328 →
   Calls P f #[.func (.func g) #[] #[.pointer (some ⟨B, 0, none⟩)]] w fun x w' => ∃ (v : Value) (ss : List (List UInt8)), x = .returned v ∧ ss.Perm (strKeys D) ∧
    w'.ownsRow w.heap.size e 1 v ss.length ((ss.mergeSort (fun x y => decide (x ≤ y))).map encStr) ∧ (v = .slice none 0 0 ↔ ss = []) ∧ Below w.heap.size w w')
  {α β : Type} {me : List (Str × α)} {m : List (Str × β)} {r : List Str} {b B : Nat} {K : Hp} {venc : α → Value} (hm : qlf m = some r) (he : me.map (·.1) = m.map (·.1)) :
  Fn P f [.func (.func g) #[] #[.pointer (some ⟨B, 0, none⟩)]] K [Cells B t [.map (some b)], qhl strK venc b me] (fun v K' H' => ∃ a : Option Addr, ∃ c : Nat, v = .slice a r.length c ∧ (0 < r.length → Has a) ∧ H' = [OwnL eS a e 1 c r, Cells B t [.map (some b)], qhl strK venc b me]) := by
 unfold qlf at hm
 rw [← he] at hm
 unfold qp0 at hm
 split at hm
 ·rename_i hi
  cases hm
  refine ⟨hc, fun F Γ w s => ?_⟩
  have hB := s.blk
  obtain ⟨es, clock, g1, g2, g3, g4, s'⟩ := (s.rem (A := qhl strK venc b me) r1).mapE
  have hb := s'.blk
  obtain ⟨k1, k2⟩ := qpz hk g1 fun p hp => by
   have := List.all_eq_true.1 hi.2 p.1 (List.mem_map_of_mem hp)
   have := of_decide_eq_true this
   simp only [lim] at this
   simp only [maxLen]; omega
  have hlen : es.size = me.length := by
   have := congrArg List.length g1
   simpa using this
  have hs : es.size ≤ maxLen := by rw [hlen]; have := hi.1; simp only [List.length_map, lim] at this; simp only [maxLen]; omega
  have own : w.ownsMap P k anyR b es.size (.map ((es.toList.map (WideElems.rg P k anyR)).foldr DataW.insert [])) := by
   refine ⟨es, clock, hb, ⟨hs, ⟨g4, g3, ?_⟩, k1⟩, Nat.le_refl _, rfl⟩
   have : es.toList.map (·.key) = (me.map (·.1)).map strK := by
    have := congrArg (List.map Prod.fst) g1
    simpa [List.map_map, Function.comp_def] using this
   rw [this]
   exact List.pairwise_map.2 (g2.imp fun {x y} hne e => hne (by simpa [strK, str] using e))
  have hperm : (strKeys (.map ((es.toList.map (WideElems.rg P k anyR)).foldr DataW.insert [] : List (Lit × DataW Unit)))).Perm (me.map (·.1)) := by
   show (List.map _ _).Perm _
   rw [← k2]
   exact (WideShapes.sorted_perm _).map _
  have hsz : Maps.size (.map ((es.toList.map (WideElems.rg P k anyR)).foldr DataW.insert []) : DataW Unit) = me.length := by
   show List.length _ = _
   rw [(WideShapes.sorted_perm _).length_eq]; simp [← hlen]
  have hml := hi.1
  simp only [List.length_map, lim] at hml
  refine (h B b es.size _ w (Array.getElem?_eq_some_iff.1 hB).1 (by simp [World.cell?, hB]) own (by rw [hsz]; simp only [maxLen]; omega) (by rw [hsz]; omega)).mono fun x w' ⟨v, ss, e1, e2, e3, e4, e5⟩ => ?_
  have ep : ss.Perm (me.map (·.1)) := e2.trans hperm
  have es2 : ss.mergeSort (fun x y => decide (x ≤ y)) = sortS (me.map (·.1)) := mergeSort_of_perm ep
  have el : ss.length = (sortS (me.map (·.1))).length := by rw [← es2, List.length_mergeSort]
  rw [es2] at e3
  obtain ⟨e6, ⟨rfl, e7⟩ | ⟨gb, cap, cur, rfl, q1, q2, q3, q4, q5, q6⟩⟩ := e3
  ·have en : sortS (me.map (·.1)) = [] := List.eq_nil_of_length_eq_zero (by rw [← el, e7])
   refine ⟨_, K, _, e1, .refl _, ⟨none, 0, by rw [en]; rfl, fun h => by rw [en] at h; simp at h, rfl⟩, ?_⟩
   rw [en]
   exact (s.below e5).mkNil
  ·rw [el] at e1 e6 q3 q6
   refine ⟨_, K, _, e1, .refl _, ⟨_, _, rfl, fun _ => ⟨_, _, rfl⟩, rfl⟩, ?_⟩
   refine (s.newB e5 q1 q2).mkOwn (fun l hl => ?_) (fun l hl v hv => ?_) (by omega) (by simpa using q3) q4 (fun i v hv => ?_)
   ·obtain ⟨x, _, rfl⟩ := List.mem_map.1 hl; rfl
   ·obtain ⟨x, _, rfl⟩ := List.mem_map.1 hl
    simp [eS] at hv; subst hv; rfl
   ·have hf : ((sortS (me.map (·.1))).map eS).flatten = (sortS (me.map (·.1))).map encStr := by
     generalize sortS (me.map (·.1)) = l
     induction l with
     | nil => rfl
     | cons x l ih => simp only [List.map_cons, List.flatten_cons, ih]; rfl
    rw [hf, ← q6] at hv
    rw [List.getElem?_take] at hv
    split at hv
    ·simpa using hv
    ·cases hv
 ·cases hm
end
end Go.SL
