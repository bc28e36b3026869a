/- The library: facts about walks, over any program. -/
import Derived.Test.YtiaaooopklhobaaGreatDoorLQ
import Derived.Laws.StructEq
set_option linter.unusedVariables false
set_option linter.unusedSimpArgs false
set_option linter.unusedSectionVars false
namespace Go.SL
open Go
section
variable {P : Program}
def eqV (d : Option TypeDesc) (x y : Value) : Option Bool := match d with
 | some (.int _) => match x, y with
  | .int k a, .int k' b => match decide (k = k') with
   | true => some (decide (a = b))
   | false => none
  | _, _ => none
 | some .bool => match x, y with
  | .bool a, .bool b => some (a == b)
  | _, _ => none
 | some .string => match x, y with
  | .string a, .string b => some (decide (a.data.toList = b.data.toList))
  | _, _ => none
 | _ => none
def qva (P : Program) : List Field → List Value → List Value → Option Bool
 | [], _, _ => some true
 | f :: fs, xs, ys => match xs[f.offset]?, ys[f.offset]? with
  | some x, some y => match eqV (P.underlying f.type) x y with
   | some b => match fs with
    | [] => some b
    | g :: gs => match qva P (g :: gs) xs ys with
     | some c => some (b && c)
     | none => none
   | none => none
  | _, _ => none
def qf8 (P : Program) : List Field → Bool
 | [] => true
 | f :: fs => (f.name != "_") && (match tyShape P f.type with | some none => true | _ => false) && qf8 P fs
theorem qt2 {d : Nat} {t : TypeId} {x y : Value} {b : Bool} {w : World} (h : eqV (P.underlying t) x y = some b) : (Op.equalIn (d + 1) t x y).run P w = .ok b w := by
 unfold eqV at h
 split at h
 ·rename_i k hu
  split at h
  ·rename_i k1 a k2 c
   split at h
   ·rename_i hk
    cases h
    obtain rfl : k1 = k2 := by simpa using hk
    rw [run_equalIn_int w d t k1 k a c hu]
    rfl
   ·cases h
  ·cases h
 ·rename_i hu
  split at h
  ·cases h; exact run_equalIn_bool' w d t _ _ hu
  ·cases h
 ·rename_i hu
  split at h
  ·rename_i a c
   cases h
   rw [run_equalIn_string w d t a c hu, ByteArray.toList_eq, ByteArray.toList_eq]
   congr 1
   by_cases e : a.data.toList = c.data.toList
   ·rw [e]; simp
   ·rw [decide_eq_false e]; simpa using e
  ·cases h
 ·cases h
theorem qnm {t : TypeId} {xs : List Value} {off : Nat} {v : Value} {w : World} (hs : tyShape P t = some none) (hv : xs[off]? = some v) : (part t xs.toArray off).run P w = .ok v w := by
 have hv' : xs.toArray[off]? = some v := by simpa using hv
 simp [part, qff hs, hv']
theorem qkc {d : Nat} {xs ys : List Value} {w : World} : ∀ {fs : List Field} {b : Bool}, qf8 P fs = true → qva P fs xs ys = some b → (Op.eqFields (d + 1) xs.toArray ys.toArray fs).run P w = .ok b w
 | [], b, _, h => by cases h; simp [Op.eqFields]
 | f :: fs, b, hok, h => by
  simp only [qf8, Bool.and_eq_true, bne_iff_ne, ne_eq] at hok
  obtain ⟨⟨hn, hs⟩, hr⟩ := hok
  have hs' : tyShape P f.type = some none := by
   split at hs
   ·rename_i e; exact e
   ·cases hs
  rw [qva] at h
  split at h
  ·rename_i x y hx hy
   split at h
   ·rename_i b1 hb
    have hbr := qt2 (d := d) (w := w) hb
    simp only [Op.eqFields, qx2 hn, Sem.run_bind, qnm hs' hx, qnm hs' hy, Result.andThen_ok, hbr]
    split at h
    ·cases h
     cases b <;> simp [Op.eqFields, Sem.run_pure]
    ·rename_i g gs
     split at h
     ·rename_i c hc
      cases h
      have ih := qkc (d := d) (w := w) hr hc
      cases b1
      ·simp [Sem.run_pure]
      ·simp only [Bool.not_true, Bool.false_eq_true, if_false, Bool.true_and]
       exact ih
     ·cases h
   ·cases h
  ·cases h
theorem qpu {t : TypeId} {xo yo : Operand} {xs ys : List Value} {fs : List Field} {b : Bool} {c : Value → Prop} (ht : P.underlying t = some (.struct fs.toArray)) (hp : P.stoodInHeld t = false) (hg : P.eqGuardType P.depth t = false)
  (ho : qf8 P fs = true) (hb : qva P fs xs ys = some b) (h : c (.bool b)) : NStep P (.bin .eql t xo yo (.agg xs.toArray) (.agg ys.toArray)) c := by
 have hf : P.fieldsOf t = fs.toArray := by unfold Program.fieldsOf; rw [ht]
 refine NStep.mk _ (fun w => ?_) h
 have he : (Op.equal t (.agg xs.toArray) (.agg ys.toArray)).run P w = .ok b w := by
  show (Op.equalIn (9998 + 1 + 1) t _ _).run P w = _
  rw [run_equalIn_struct w (9998 + 1) t _ _ (by rw [hf]; exact ht) hp, hf]
  exact qkc ho hb
 have hgd : (eqGuard .eql t xo yo (.agg xs.toArray) (.agg ys.toArray)).run P w = .ok () w := by
  simp [eqGuard, hg]
 simp only [M.sem, Sem.run_bind, hgd, Result.andThen_ok]
 have : binOp .eql t (.agg xs.toArray) (.agg ys.toArray) = (do pure (.bool (← Op.equal t (.agg xs.toArray) (.agg ys.toArray)))) := rfl
 rw [this]
 simp only [Sem.run_bind, he, Result.andThen_ok, Sem.run_pure]
theorem qt3 {t : TypeId} {xo yo : Operand} {xs ys : List Value} {fs : List Field} {b : Bool} {c : Value → Prop} (ht : P.underlying t = some (.struct fs.toArray)) (hp : P.stoodInHeld t = false) (hg : P.eqGuardType P.depth t = false)
  (ho : qf8 P fs = true) (hb : qva P fs xs ys = some b) (h : c (.bool (!b))) : NStep P (.bin .neq t xo yo (.agg xs.toArray) (.agg ys.toArray)) c := by
 have hf : P.fieldsOf t = fs.toArray := by unfold Program.fieldsOf; rw [ht]
 refine NStep.mk _ (fun w => ?_) h
 have he : (Op.equal t (.agg xs.toArray) (.agg ys.toArray)).run P w = .ok b w := by
  show (Op.equalIn (9998 + 1 + 1) t _ _).run P w = _
  rw [run_equalIn_struct w (9998 + 1) t _ _ (by rw [hf]; exact ht) hp, hf]
  exact qkc ho hb
 have hgd : (eqGuard .neq t xo yo (.agg xs.toArray) (.agg ys.toArray)).run P w = .ok () w := by
  simp [eqGuard, hg]
 simp only [M.sem, Sem.run_bind, hgd, Result.andThen_ok]
 have : binOp .neq t (.agg xs.toArray) (.agg ys.toArray) = (do pure (.bool (!(← Op.equal t (.agg xs.toArray) (.agg ys.toArray))))) := rfl
 rw [this]
 simp only [Sem.run_bind, he, Result.andThen_ok, Sem.run_pure]
end
end Go.SL
