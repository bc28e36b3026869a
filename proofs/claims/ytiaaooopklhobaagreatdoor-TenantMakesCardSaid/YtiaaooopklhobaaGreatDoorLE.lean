/- The library: facts about walks, over any program. -/
import Derived.Test.YtiaaooopklhobaaGreatDoorLD
import Derived.Deep.AppendSrc
set_option linter.unusedVariables false
set_option linter.unusedSimpArgs false
set_option linter.unusedSectionVars false
namespace Go.SL
open Go
section
variable {P : Program}
def InK : IntKind → Int → Prop
 | .i8, n => -128 ≤ n ∧ n ≤ 127
 | .i16, n => -32768 ≤ n ∧ n ≤ 32767
 | .i32, n => -2147483648 ≤ n ∧ n ≤ 2147483647
 | .i64, n => -9223372036854775808 ≤ n ∧ n ≤ 9223372036854775807
 | .u8, n => 0 ≤ n ∧ n ≤ 255
 | .u16, n => 0 ≤ n ∧ n ≤ 65535
 | .u32, n => 0 ≤ n ∧ n ≤ 4294967295
 | .u64, n => 0 ≤ n ∧ n ≤ 18446744073709551615
theorem qdq {k : IntKind} {n : Int} (h : InK k n) : k.wrap n = n := by
 cases k <;> simp only [InK] at h <;> simp only [IntKind.wrap, IntKind.bits, IntKind.signed] <;> simp <;> omega
theorem qan {k : IntKind} {e : Int} {c : Value → Prop} (hi : InK k e) (h : c (.int k e)) : IntStep k e c := by
 exact ⟨by rw [qdq hi]; exact h⟩
theorem qhj {k : IntKind} {e : Int} {c : Value → Prop} (h : c (.int k (k.wrap e))) : IntStep k e c := by
 exact ⟨h⟩
theorem NStep.mk {m : M} {c : Value → Prop} (v : Value) (hr : ∀ w, m.sem.run P w = .ok (.value v) w) (h : c v) : NStep P m c := by
 exact ⟨v, hr, h⟩
theorem RStepS.mk {m : M} {K : Hp} {H : List HProp} {c : Value → Prop} (v : Value) (hr : ∀ Γ w, Sat Γ K H w → m.sem.run P w = .ok (.value v) w) (h : c v) : RStepS P m K H c := by
 exact ⟨v, hr, h⟩
theorem qag {t : TypeId} {xo yo : Operand} {k : IntKind} {a b : Int} {c : Value → Prop} (h : c (.bool (decide (a = b)))) : NStep P (.bin .eql t xo yo (.int k a) (.int k b)) c :=
 NStep.mk _ (fun w => by simp [M.sem, eqGuard, binOp, Op.intCmp]; by_cases h : a = b <;> simp [h]) h
theorem qbb {t : TypeId} {xo yo : Operand} {k : IntKind} {a b : Int} {c : Value → Prop} (h : c (.bool (decide (a ≠ b)))) : NStep P (.bin .neq t xo yo (.int k a) (.int k b)) c :=
 NStep.mk _ (fun w => by simp [M.sem, eqGuard, binOp, Op.intCmp]; by_cases h : a = b <;> simp [h]) h
theorem NStep.eql {t : TypeId} {xo yo : Operand} {x y : Value} {c : Value → Prop} (b : Bool) (hg : ∀ w, (eqGuard .eql t xo yo x y).run P w = .ok () w) (hb : binOp .eql t x y = (do pure (.bool (← Op.equal t x y))))
  (he : ∀ d w, (Op.equalIn (d + 1) t x y).run P w = .ok b w) (h : c (.bool b)) : NStep P (.bin .eql t xo yo x y) c :=
 NStep.mk _ (fun w => by
  have : (Op.equal t x y).run P w = .ok b w := he 9999 w
  simp only [M.sem, hb, Sem.run_bind, hg, Result.andThen_ok, this, Sem.run_pure]) h
theorem NStep.neq {t : TypeId} {xo yo : Operand} {x y : Value} {c : Value → Prop} (b : Bool) (hg : ∀ w, (eqGuard .neq t xo yo x y).run P w = .ok () w) (hb : binOp .neq t x y = (do pure (.bool (!(← Op.equal t x y)))))
  (he : ∀ d w, (Op.equalIn (d + 1) t x y).run P w = .ok b w) (h : c (.bool (!b))) : NStep P (.bin .neq t xo yo x y) c :=
 NStep.mk _ (fun w => by
  have : (Op.equal t x y).run P w = .ok b w := he 9999 w
  simp only [M.sem, hb, Sem.run_bind, hg, Result.andThen_ok, this, Sem.run_pure]) h
theorem qnf {t : TypeId} {xo yo : Operand} {a b : Bool} {c : Value → Prop} (ht : P.underlying t = some .bool) (h : c (.bool (!(a == b)))) : NStep P (.bin .neq t xo yo (.bool a) (.bool b)) c :=
 NStep.neq (a == b) (fun w => by simp [eqGuard]) rfl (fun d w => by simp [Op.equalIn, run_underlying ht]) h
abbrev str (l : List UInt8) : Value := .string ⟨l.toArray⟩
theorem qaq {t : TypeId} {xo yo : Operand} {a b : List UInt8} {c : Value → Prop} (h : c (.bool (decide (a = b)))) : NStep P (.bin .eql t xo yo (str a) (str b)) c :=
 NStep.mk _ (fun w => by first | (simp [M.sem, eqGuard, binOp, Op.stringOp]; done) | (simp [M.sem, eqGuard, binOp, Op.stringOp]; by_cases h : a = b <;> simp [h])) h
theorem qbq {t : TypeId} {xo yo : Operand} {a b : List UInt8} {c : Value → Prop} (h : c (.bool (decide (a ≠ b)))) : NStep P (.bin .neq t xo yo (str a) (str b)) c :=
 NStep.mk _ (fun w => by first | (simp [M.sem, eqGuard, binOp, Op.stringOp]; done) | (simp [M.sem, eqGuard, binOp, Op.stringOp]; by_cases h : a = b <;> simp [h])) h
theorem qte {t : TypeId} {xo yo : Operand} {a b : List UInt8} {c : Value → Prop} (h : c (.bool (!Op.bytesLess a b))) : NStep P (.bin .geq t xo yo (str a) (str b)) c :=
 NStep.mk _ (fun w => by first | (simp [M.sem, eqGuard, binOp, Op.stringOp]; done) | (simp [M.sem, eqGuard, binOp, Op.stringOp]; by_cases h : a = b <;> simp [h])) h
theorem qtf {t : TypeId} {xo yo : Operand} {a b : List UInt8} {c : Value → Prop} (hl : a.length + b.length ≤ 9223372036854775807) (h : c (str (a ++ b))) : NStep P (.bin .add t xo yo (str a) (str b)) c :=
 NStep.mk _ (fun w => by
  have : ¬ ((((⟨a.toArray⟩ : ByteArray).size + (⟨b.toArray⟩ : ByteArray).size : Nat) : Int) > IntKind.i64.max) := by
   simp [ByteArray.size, IntKind.max, IntKind.bits, IntKind.signed]; omega
  simp only [M.sem, eqGuard, binOp, Op.stringOp, qx1 this]
  simp
  rfl) h
theorem qdw {t e : TypeId} {a : Addr} {xo yo : Operand} {c : Value → Prop} (ht : P.underlying t = some (.pointer e)) (h : c (.bool false)) : NStep P (.bin .eql t xo yo (.pointer (some a)) (.pointer none)) c :=
 NStep.eql false (fun w => by simp [eqGuard]) rfl (fun d w => by simp [Op.equalIn, run_underlying ht]) h
theorem qgs {t e : TypeId} {xo yo : Operand} {c : Value → Prop} (ht : P.underlying t = some (.pointer e)) (h : c (.bool true)) : NStep P (.bin .eql t xo yo (.pointer none) (.pointer none)) c :=
 NStep.eql true (fun w => by simp [eqGuard]) rfl (fun d w => by simp [Op.equalIn, run_underlying ht]) h
theorem qkx {t u : TypeId} {ms : Array (String × TypeId)} {x : Value} {xo yo : Operand} {c : Value → Prop} (ht : P.underlying t = some (.interface ms)) (h : c (.bool false)) : NStep P (.bin .eql t xo yo (.iface u x) .nilIface) c :=
 NStep.eql false (fun w => by simp [eqGuard]) rfl (fun d w => by simp [Op.equalIn, run_underlying ht]) h
theorem qj4 {t u : TypeId} {ms : Array (String × TypeId)} {x : Value} {xo yo : Operand} {c : Value → Prop} (ht : P.underlying t = some (.interface ms)) (h : c (.bool true)) : NStep P (.bin .neq t xo yo (.iface u x) .nilIface) c :=
 NStep.neq false (fun w => by simp [eqGuard]) rfl (fun d w => by simp [Op.equalIn, run_underlying ht]) h
theorem qky {t e : TypeId} {a : Addr} {n m : Nat} {xo yo : Operand} {c : Value → Prop} (ht : P.underlying t = some (.slice e)) (h : c (.bool false)) : NStep P (.bin .eql t xo yo (.slice (some a) n m) (.slice none 0 0)) c :=
 NStep.eql false (fun w => by simp [eqGuard]) rfl (fun d w => by simp [Op.equalIn, run_underlying ht]) h
theorem qma {t e : TypeId} {n m : Nat} {xo yo : Operand} {c : Value → Prop} (ht : P.underlying t = some (.slice e)) (h : c (.bool true)) : NStep P (.bin .eql t xo yo (.slice none n m) (.slice none 0 0)) c :=
 NStep.eql true (fun w => by simp [eqGuard]) rfl (fun d w => by simp [Op.equalIn, run_underlying ht]) h
theorem qtg {t : TypeId} {ms : Array (String × TypeId)} {xo : Operand} {cv : Value} {c : Value → Prop} (ht : P.underlying t = some (.interface ms)) (h : c (.bool true)) : NStep P (.bin .eql t xo (.const cv) .nilIface .nilIface) c :=
 NStep.eql true (fun w => by simp [eqGuard]) rfl (fun d w => by simp [Op.equalIn, run_underlying ht]) h
theorem qq7 {t : TypeId} {ms : Array (String × TypeId)} {xo : Operand} {cv : Value} {c : Value → Prop} (ht : P.underlying t = some (.interface ms)) (h : c (.bool false)) : NStep P (.bin .neq t xo (.const cv) .nilIface .nilIface) c :=
 NStep.neq true (fun w => by simp [eqGuard]) rfl (fun d w => by simp [Op.equalIn, run_underlying ht]) h
theorem qav {b : Bool} {c : Value → Prop} (h : c (.bool (!b))) : NStep P (.un .not (.bool b)) c := NStep.mk _ (fun w => by simp [M.sem, Op.unary]) h
theorem qo6 {k : IntKind} {n : Int} {c : Value → Prop} (hi : InK k (-n)) (h : c (.int k (-n))) : NStep P (.un .neg (.int k n)) c :=
 NStep.mk _ (fun w => by simp [M.sem, Op.unary, Op.intArith, qdq hi]) h
theorem qhk {src dst : TypeId} {k k' : IntKind} {n : Int} {c : Value → Prop} (ht : P.underlying dst = some (.int k')) (hs : (P.underlying src).isSome) (hi : InK k' n) (h : c (.int k' n)) : NStep P (.conv src dst (.int k n)) c :=
 NStep.mk _ (fun w => by
  cases hu : P.underlying src with
  | none => simp [hu] at hs
  | some d => simp [M.sem, convert, run_underlying hu, run_underlying ht, Conv.intToInt, qdq hi]) h
theorem qth {ts : Array TypeId} {ty : TypeId} {cs : Array Bool} {k : IntKind} {a b : Int} {K : Hp} {H : List HProp} {c : Value → Prop} (h : c (.int k (min a b))) : RStepS P (.builtin .min ts ty cs [.int k a, .int k b]) K H c :=
 RStepS.mk _ (fun Γ w s => by simp [M.sem, Go.builtin, Builtin.min_, Builtin.min2]; rw [Int.min_def]; split <;> split <;> first | rfl | omega) h
theorem qcl {ts : Array TypeId} {ty : TypeId} {cs : Array Bool} {k : IntKind} {a b : Int} {K : Hp} {H : List HProp} {c : Value → Prop} (h : c (.int k (max a b))) : RStepS P (.builtin .max ts ty cs [.int k a, .int k b]) K H c :=
 RStepS.mk _ (fun Γ w s => by simp [M.sem, Go.builtin, Builtin.max_, Builtin.max2]; rw [Int.max_def]; split <;> split <;> first | rfl | omega) h
def qez (P : Program) (s : TypeId) (f : Nat) : Option Nat :=
 match P.underlying s with
 | some (.struct fs) => match fs[f]? with
  | some fd => match qbc P fd.type with
   | some (_ + 1) => some fd.offset
   | _ => none
  | none => none
 | _ => none
theorem qh8 {s f o : Nat} {a : Addr} (h : qez P s f = some o) (w : World) : (Instr.fieldAt s (.pointer (some a)) f).run P w = .ok (.pointer (some (a.add o))) w := by
 unfold qez at h
 split at h
 ·rename_i fs hu
  split at h
  ·rename_i fd hf
   split at h
   ·rename_i n hn
    cases h
    simp [Instr.fieldAt, run_underlying hu, hf, Instr.sureAddr, fieldPlace, qbi hn]
   ·cases h
  ·cases h
 ·cases h
theorem JeA {s b off f o : Nat} {c : Value → Prop} (ho : qez P s f = some o) (h : qe5 (off + o) fun o' => c (.pointer (some ⟨b, o', none⟩))) : NStep P (.fieldAddr s (.pointer (some ⟨b, off, none⟩)) f) c :=
 NStep.mk (.pointer (some ⟨b, off + o, none⟩)) (fun w => by simp [M.sem, qh8 ho, qbj]) (by rw [qck] at h; exact h)
theorem qah {a : Addr} {c : Value → Prop} (h : c (.pointer (some a))) : NStep P (.nilCheck (.pointer (some a))) c := NStep.mk _ (fun w => by simp [M.sem, execOp]) h
theorem qas {t : TypeId} {x : Value} {c : Value → Prop} (ht : match P.underlying t with | some (.interface _) => false | some _ => true | none => false) (h : c (.iface t x)) : NStep P (.mkIface t x) c :=
 NStep.mk _ (fun w => by
  cases hu : P.underlying t with
  | none => simp [hu] at ht
  | some d => cases d <;> simp_all [M.sem, Instr.makeInterface, run_underlying hu]) h
theorem Jdt {t f : Nat} {cs : Array Value} {fd : Field} {fs : Array Field} {v : Value} {c : Value → Prop} (hu : P.underlying t = some (.struct fs)) (hf : fs[f]? = some fd) (hs : tyShape P fd.type = some none)
  (hv : cs.toList[fd.offset]? = some v) (h : c v) : NStep P (.field t (.agg cs) f) c :=
 NStep.mk _ (fun w => by
  have hv' : cs[fd.offset]? = some v := by simpa using hv
  simp [M.sem, Instr.field, run_underlying hu, hf, asAgg, part, qff hs, hv']) h
def qkz (P : Program) (t : TypeId) : List (Nat × Nat) :=
 match P.underlying t with
 | some (.struct fs) => fs.toList.map fun f => (f.offset, (qbc P f.type).getD 0)
 | _ => []
def qti {α : Type} : List α → Nat → (α → Prop) → Prop
 | [], _, _ => False
 | a :: _, 0, k => k a
 | _ :: l, n + 1, k => qti l n k
theorem qk0 {α : Type} : ∀ {l : List α} {n : Nat} {k : α → Prop}, qti l n k → ∃ a, l[n]? = some a ∧ k a
 | [], _, _, h => h.elim
 | a :: _, 0, _, h => ⟨a, rfl, h⟩
 | _ :: l, n + 1, k, h => by simpa using qk0 (l := l) h
def buildK (pl : List (Nat × Nat)) : List (Nat × Value) → List Value → (List Value → Prop) → Prop
 | [], acc, k => qbx acc k
 | (i, v) :: rest, acc, k => qti pl i fun p => cellsL v fun vs => qdu (decide (vs.length = p.2) && decide (p.1 + vs.length ≤ acc.length)) (qbx (splice p.1 vs acc) fun acc => buildK pl rest acc k) False
theorem qg7 : ∀ (vs : List Value) (off i : Nat) (acc : Array Value), off + i + vs.length ≤ acc.size →
  ((vs.zipIdx i).foldl (fun cs (c, j) => cs.setIfInBounds (off + j) c) acc).toList = splice (off + i) vs acc.toList
 | [], off, i, acc, _ => by
  have : ∀ (n : Nat) (l : List Value), splice n [] l = l := by
   intro n; induction n with
   | zero => intro l; cases l <;> simp [splice]
   | succ n ih => intro l; cases l <;> simp [splice, ih]
  simp [this]
 | v :: vs, off, i, acc, h => by
  simp only [List.length_cons] at h
  rw [List.zipIdx_cons, List.foldl_cons, qg7 vs off (i + 1) _ (by simp; omega)]
  have : ∀ (n : Nat) (l : List Value), n < l.length → splice (n + 1) vs (l.set n v) = splice n (v :: vs) l := by
   intro n; induction n with
   | zero => intro l hn; cases l with
    | nil => simp at hn
    | cons x l => simp [splice]
   | succ n ih => intro l hn; cases l with
    | nil => simp at hn
    | cons x l => simp only [List.set_cons_succ, splice]; rw [ih l (by simpa using hn)]
  rw [← this (off + i) acc.toList (by simp; omega)]
  simp [Nat.add_assoc]
theorem qfx {place : Nat → Option (Nat × Nat)} {pl : List (Nat × Nat)} (hp : ∀ i p, pl[i]? = some p → place i = some p) : ∀ {parts : List (Nat × Value)} {acc : Array Value} {k : List Value → Prop}, buildK pl parts acc.toList k →
  ∃ cs : Array Value, Instr.fill place acc parts = some cs ∧ k cs.toList
 | [], acc, k, h => ⟨acc, rfl, by simpa [buildK, qa9] using h⟩
 | (i, v) :: rest, acc, k, h => by
  simp only [buildK, qbm, qa9] at h
  obtain ⟨p, hpi, h⟩ := qk0 h
  rcases condP_true h with ⟨hb, h⟩ | ⟨_, h⟩
  ·simp only [Bool.and_eq_true, decide_eq_true_eq] at hb
   have e : ((v.cells.zipIdx.foldl (fun cs (c, j) => cs.setIfInBounds (p.1 + j) c) acc)).toList = splice p.1 v.cells.toList acc.toList := by
    have := qg7 v.cells.toList p.1 0 acc (by have := hb.2; simp at this ⊢; omega)
    rw [Nat.add_zero] at this
    rw [← this, ← Array.foldl_toList]
    simp
   rw [← e] at h
   obtain ⟨cs, h1, h2⟩ := qfx hp h
   refine ⟨cs, ?_, h2⟩
   have hs : ¬ (v.cells.size ≠ p.2 ∨ p.1 + v.cells.size > acc.size) := by
    have := hb.1; have := hb.2; simp at *; omega
   have hs1 : v.cells.size = p.2 := by have := hb.1; simpa using this
   have hs2 : p.1 + v.cells.size ≤ acc.size := by have := hb.2; simpa using this
   simp only [Instr.fill, hp i p hpi]
   simp only [hs1, ne_eq, not_true_eq_false, decide_false, Bool.false_or]
   rw [qx1 (by simp; omega)]
   exact h1
  ·exact h.elim
theorem qak {t : TypeId} {z : Value} {parts : List (Nat × Value)} {c : Value → Prop} (hz : qbk P t = some z) (hst : match P.underlying t with | some (.struct fs) => fs.toList.all fun f => (qbc P f.type).isSome | _ => false)
  (h : buildK (qkz P t) parts z.cells.toList fun cs => c (.agg cs.toArray)) : NStep P (.build t parts) c := by
 cases hu : P.underlying t with
 | none => simp [hu] at hst
 | some d =>
  cases d with
  | struct fs =>
   simp only [hu] at hst
   have hpl : ∀ w, (fs.mapM (fun f => do pure (f.offset, ← sizeOf f.type)) : Sem (Array (Nat × Nat))).run P w = .ok (qkz P t).toArray w := by
    intro w
    simp only [qkz, hu]
    obtain ⟨l⟩ := fs
    rw [Array.mapM_eq_foldlM]
    have key : ∀ (l : List Field) (acc : Array (Nat × Nat)), (l.all fun f => (qbc P f.type).isSome) = true →
      (l.foldlM (fun bs f => do let b ← (do pure (f.offset, ← sizeOf f.type)); pure (bs.push b)) acc : Sem (Array (Nat × Nat))).run P w = .ok (acc ++ (l.map fun f => (f.offset, (qbc P f.type).getD 0)).toArray) w := by
     intro l
     induction l with
     | nil => intro acc _; simp
     | cons f l ih =>
      intro acc hl
      simp only [List.all_cons, Bool.and_eq_true] at hl
      obtain ⟨n, hn⟩ := Option.isSome_iff_exists.1 hl.1
      simp only [List.foldlM_cons, Sem.run_bind, qbi hn, Result.andThen_ok, Sem.run_pure]
      have := ih (acc.push (f.offset, n)) hl.2
      rw [this]
      simp [hn]
    have := key l #[] hst
    simpa using this
   obtain ⟨cs, h1, h2⟩ := qfx (place := fun i => (qkz P t)[i]?) (fun i p hp => hp) h
   refine NStep.mk (.agg cs) (fun w => ?_) (by simpa using h2)
   simp only [M.sem, Instr.build, Sem.run_bind, qdv hz, Result.andThen_ok, run_underlying hu, hpl]
   simp [h1]
  | _ => simp [hu] at hst
end
open Go
section
variable {P : Program}
structure RdS (K : Hp) (a : Option Addr) (sz : Nat) (css : List (List Value)) : Prop where
 len : ∀ l ∈ css, l.length = sz
 one : ∀ l ∈ css, ∀ v ∈ l, v.oneCell' = true
 cells : css ≠ [] → ∃ b off cs T fz, a = some ⟨b, off, none⟩ ∧ K b = some (.cells cs T fz) ∧ ∀ (i : Nat) (v : Value), css.flatten[i]? = some v → cs[off + i]? = some v
theorem RdS.mono {K K' : Hp} {a : Option Addr} {sz : Nat} {css : List (List Value)} (h : RdS K a sz css) (hk : K.Le K') : RdS K' a sz css :=
 ⟨h.len, h.one, fun hn => let ⟨b, off, cs, T, fz, e, k, c⟩ := h.cells hn; ⟨b, off, cs, T, fz, e, hk _ _ k, c⟩⟩
theorem RdS.nil {K : Hp} {a : Option Addr} {sz : Nat} : RdS K a sz [] := ⟨fun _ h => (by cases h), fun _ h => (by cases h), fun h => absurd rfl h⟩
@[irreducible] def eptr (a : Option Addr) (k : Nat) : Value := .pointer (a.map (·.add k))
theorem qbt (b off k : Nat) : eptr (some ⟨b, off, none⟩) k = .pointer (some ⟨b, off + k, none⟩) := by
 unfold eptr; simp [qbj]
def Has (a : Option Addr) : Prop := ∃ b off, a = some ⟨b, off, none⟩
theorem RdS.has {K : Hp} {a : Option Addr} {sz : Nat} {css : List (List Value)} (h : RdS K a sz css) (hn : 0 < css.length) : Has a := by
 obtain ⟨b, off, _, _, _, e, _⟩ := h.cells (by intro e; simp [e] at hn)
 exact ⟨b, off, e⟩
theorem qae {t e sz n cap : Nat} {a : Option Addr} {k : IntKind} {i : Int} {c : Value → Prop} (ht : P.underlying t = some (.slice e)) (hs : qbc P e = some sz) (ha : Has a) (h0 : 0 ≤ i) (hi : i < n)
  (h : qe5 sz fun sz => c (eptr a (i.toNat * sz))) : NStep P (.indexAddr t (.slice a n cap) (.int k i)) c := by
 obtain ⟨b, off, rfl⟩ := ha
 rw [qck] at h
 refine NStep.mk _ (fun w => ?_) h
 rw [qbt]
 simp [M.sem, Instr.indexAt, asIntOf, run_underlying ht, h0, hi, qbi hs, qbj]
theorem qa8 {s f o k : Nat} {a : Option Addr} {c : Value → Prop} (ho : qez P s f = some o) (ha : Has a) (h : qe5 o fun o => c (eptr a (k + o))) : NStep P (.fieldAddr s (eptr a k) f) c := by
 obtain ⟨b, off, rfl⟩ := ha
 rw [qck] at h
 refine NStep.mk _ (fun w => ?_) h
 rw [qbt, qbt]
 simp [M.sem, qh8 ho, qbj, Nat.add_assoc]
theorem qdr : ∀ {css : List (List Value)} {sz i : Nat} {l : List Value}, (∀ l ∈ css, l.length = sz) → css[i]? = some l → ∀ j v, l[j]? = some v → css.flatten[i * sz + j]? = some v
 | l0 :: css, sz, 0, l, hl, hi, j, v, hj => by
  simp at hi; subst hi
  simp only [List.flatten_cons, Nat.zero_mul, Nat.zero_add]
  rw [List.getElem?_append_left (List.getElem?_eq_some_iff.1 hj).1]
  exact hj
 | l0 :: css, sz, i + 1, l, hl, hi, j, v, hj => by
  simp only [List.getElem?_cons_succ] at hi
  have h0 := hl l0 (by simp)
  have ih := qdr (fun l h => hl l (by simp [h])) hi j v hj
  simp only [List.flatten_cons]
  rw [List.getElem?_append_right (by rw [h0, Nat.succ_mul]; omega)]
  rw [show (i + 1) * sz + j - l0.length = i * sz + j from by rw [h0, Nat.succ_mul]; omega]
  exact ih
theorem RdS.cell {K : Hp} {a : Option Addr} {sz : Nat} {css : List (List Value)} (h : RdS K a sz css) {i : Nat} {l : List Value} (hi : css[i]? = some l) :
  ∃ b off, a = some ⟨b, off, none⟩ ∧ ∀ (w : World), (∀ i o, K i = some o → w.heap[i]? = some o) → ∀ j v, l[j]? = some v → w.cell? ⟨b, off + (i * sz + j), none⟩ = some v := by
 obtain ⟨b, off, cs, T, fz, e, k, c⟩ := h.cells (by intro e; simp [e] at hi)
 refine ⟨b, off, e, fun w hw j v hj => ?_⟩
 simp only [World.cell?, hw _ _ k]
 simpa using c _ _ (qdr h.len hi j v hj)
theorem qb1 {t k : Nat} {a : Option Addr} {sz : Nat} {css : List (List Value)} {K : Hp} {H : List HProp} {c : Value → Prop} (i o : Nat) (l : List Value) (v : Value) (hr : RdS K a sz css) (ht : tyShape P t = some none)
  (hi : css[i]? = some l) (ho : l[o]? = some v) (hk : k = i * sz + o) (h : c v) : RStepS P (.load t (eptr a k)) K H c := by
 obtain ⟨b, off, rfl, hc⟩ := hr.cell hi
 subst hk
 refine RStepS.mk v (fun Γ w s => ?_) h
 rw [qbt]
 simp [M.sem, Instr.loadAt, Instr.sureAddr, qb4 ht (hc w s.know o v ho)]
theorem qfy {t k : Nat} {a : Option Addr} {sz : Nat} {css : List (List Value)} {d : DrI} {c : Value → Prop} (i o : Nat) (l : List Value) (v : Value) (hr : RdS d.K a sz css) (ht : tyShape P t = some none)
  (hi : css[i]? = some l) (ho : l[o]? = some v) (hk : k = i * sz + o) (h : c v) : LStep P (.load t (eptr a k)) d c := by
 obtain ⟨b, off, rfl, hc⟩ := hr.cell hi
 subst hk
 refine ⟨v, fun w hI => ?_, h⟩
 rw [qbt]
 simp [M.sem, Instr.loadAt, Instr.sureAddr, qb4 ht (hc w hI.1 o v ho)]
theorem qao {t k : Nat} {a : Option Addr} {sz : Nat} {css : List (List Value)} {K : Hp} {H : List HProp} {c : Value → Prop} (i : Nat) (l : List Value) (hr : RdS K a sz css) (ht : tyShape P t = some (some sz))
  (hi : css[i]? = some l) (hk : k = i * sz) (h : c (.agg l.toArray)) : RStepS P (.load t (eptr a k)) K H c := by
 have hl := hr.len l (List.mem_of_getElem? hi)
 obtain ⟨b, off, rfl, hc⟩ := hr.cell hi
 subst hk
 refine RStepS.mk _ (fun Γ w s => ?_) h
 rw [qbt]
 have := qbs (P := P) (a := ⟨b, off + i * sz, none⟩) (w := w) ht hl (fun j v hj => by rw [qbj, Nat.add_assoc]; exact hc w s.know j v hj)
 simp [M.sem, Instr.loadAt, Instr.sureAddr, this]
def OwnA (a : Option Addr) (e sz cap : Nat) (css : List (List Value)) : HProp := fun h =>
 (∀ l ∈ css, l.length = sz) ∧ (∀ l ∈ css, ∀ v ∈ l, v.oneCell' = true) ∧
 ((a = none ∧ cap = 0 ∧ css = []) ∨
  ∃ b cur fz, (fz = (0, 0) ∨ cur.size ≤ fz.1) ∧ a = some ⟨b, 0, none⟩ ∧ h b = some (.cells cur e fz) ∧ cap * sz ≤ cur.size ∧ css.length ≤ cap ∧ cap ≤ maxLen ∧ ∀ (i : Nat) (v : Value), css.flatten[i]? = some v → cur[i]? = some v)
theorem Sat.own {Γ : World} {K : Hp} {a : Option Addr} {e sz cap : Nat} {css : List (List Value)} {H : List HProp} {w : World} (s : Sat Γ K (OwnA a e sz cap css :: H) w) :
  (∀ l ∈ css, l.length = sz) ∧ (∀ l ∈ css, ∀ v ∈ l, v.oneCell' = true) ∧ ((a = none ∧ cap = 0 ∧ css = [] ∧ Sat Γ K H w) ∨
   ∃ b cur fz, (fz = (0, 0) ∨ cur.size ≤ fz.1) ∧ a = some ⟨b, 0, none⟩ ∧ cap * sz ≤ cur.size ∧ css.length ≤ cap ∧ cap ≤ maxLen ∧ (∀ (i : Nat) (v : Value), css.flatten[i]? = some v → cur[i]? = some v) ∧ Sat Γ K (Blk b (.cells cur e fz) :: H) w) := by
 obtain ⟨h, d, ⟨h1, h2, d12, l1, l2, ⟨hl, ho, hA⟩, rest⟩, y⟩ := s.heap
 refine ⟨hl, ho, ?_⟩
 rcases hA with ⟨rfl, rfl, rfl⟩ | ⟨b, cur, fz, hfz, rfl, hb, g1, g2, g3, g4⟩
 ·exact .inl ⟨rfl, rfl, rfl, s.drop⟩
 ·exact .inr ⟨b, cur, fz, hfz, rfl, g1, g2, g3, g4, s.os, s.tape, s.output, s.know, h, d, ⟨h1, h2, d12, l1, l2, hb, rest⟩, y⟩
theorem Sat.mkOwnF {Γ : World} {K : Hp} {b e sz cap : Nat} {cur : Array Value} {fz : Nat × Nat} {css : List (List Value)} {H : List HProp} {w : World} (s : Sat Γ K (Blk b (.cells cur e fz) :: H) w) (hfz : fz = (0, 0) ∨ cur.size ≤ fz.1)
  (h1 : ∀ l ∈ css, l.length = sz) (h2 : ∀ l ∈ css, ∀ v ∈ l, v.oneCell' = true) (g1 : cap * sz ≤ cur.size) (g2 : css.length ≤ cap) (g3 : cap ≤ maxLen) (g4 : ∀ (i : Nat) (v : Value), css.flatten[i]? = some v → cur[i]? = some v) :
  Sat Γ K (OwnA (some ⟨b, 0, none⟩) e sz cap css :: H) w :=
 s.conv fun h ⟨x1, x2, d, l1, l2, hb, rest⟩ => ⟨x1, x2, d, l1, l2, ⟨h1, h2, .inr ⟨b, cur, fz, hfz, rfl, hb, g1, g2, g3, g4⟩⟩, rest⟩
theorem Sat.mkOwn {Γ : World} {K : Hp} {b e sz cap : Nat} {cur : Array Value} {css : List (List Value)} {H : List HProp} {w : World} (s : Sat Γ K (Blk b (.cells cur e (0, 0)) :: H) w)
  (h1 : ∀ l ∈ css, l.length = sz) (h2 : ∀ l ∈ css, ∀ v ∈ l, v.oneCell' = true) (g1 : cap * sz ≤ cur.size) (g2 : css.length ≤ cap) (g3 : cap ≤ maxLen) (g4 : ∀ (i : Nat) (v : Value), css.flatten[i]? = some v → cur[i]? = some v) :
  Sat Γ K (OwnA (some ⟨b, 0, none⟩) e sz cap css :: H) w := s.mkOwnF (.inl rfl) h1 h2 g1 g2 g3 g4
theorem Sat.mkNil {Γ : World} {K : Hp} {e sz : Nat} {H : List HProp} {w : World} (s : Sat Γ K H w) : Sat Γ K (OwnA none e sz 0 [] :: H) w :=
 s.conv fun h hl => ⟨fun _ => none, h, fun _ => .inl rfl, Hp.emp_le _, .refl _, ⟨fun _ h => (by cases h), fun _ h => (by cases h), .inl ⟨rfl, rfl, rfl⟩⟩, hl⟩
structure qfz (P : Program) (K : Hp) (H : List HProp) (sz tx : Nat) (x : Value) (news : List (List Value)) : Prop where
 src : ∀ Γ w, Sat Γ K H w → Src P sz tx x news.length news.flatten w
 len : ∀ l ∈ news, l.length = sz
 one : ∀ l ∈ news, ∀ v ∈ l, v.oneCell' = true
theorem qb8 : ∀ {css : List (List Value)} {sz : Nat}, (∀ l ∈ css, l.length = sz) → css.flatten.length = css.length * sz
 | [], sz, _ => by simp
 | l :: css, sz, h => by
  have ih := qb8 (css := css) (sz := sz) (fun l h' => h l (List.mem_cons_of_mem _ h'))
  simp only [List.flatten_cons, List.length_append, List.length_cons, h l (by simp), ih, Nat.succ_mul]
  omega
theorem qut {K : Hp} {H : List HProp} {sz tx e' cap n : Nat} {a : Option Addr} {css : List (List Value)} (ht : P.underlying tx = some (.slice e')) (hr : RdS K a sz css) (hn : n = css.length) : qfz P K H sz tx (.slice a n cap) css := by
 subst hn
 refine ⟨fun Γ w s => ?_, hr.len, hr.one⟩
 have hfl := qb8 hr.len
 have hone : ∀ u ∈ css.flatten, u.oneCell' = true := fun u hu => by
  obtain ⟨l, hl, hu⟩ := List.mem_flatten.1 hu
  exact hr.one l hl u hu
 by_cases hn : css = []
 ·subst hn
  cases a with
  | none => exact Src.ofNil w ht cap
  | some ad => exact Src.ofSlice w ht ad 0 cap [] (by simp) (by simp) (by simp)
 ·obtain ⟨b, off, cs, T, fz, rfl, k, c⟩ := hr.cells hn
  exact Src.ofSlice w ht _ _ cap _ hfl (fun j u hu => by
   rw [qbj]
   simp only [World.cell?, s.know _ _ k]
   simpa using c j u hu) hone
theorem qfg : ∀ (l : List UInt8), (l.map fun b => [Value.int .u8 b.toNat]).flatten = l.map fun b => Value.int .u8 b.toNat
 | [] => rfl
 | x :: l => by simp [qfg l]
theorem qo7 {K : Hp} {H H' : List HProp} {sz tx e' e cap n : Nat} {a : Option Addr} {css : List (List Value)} (ht : P.underlying tx = some (.slice e')) (hr : Rem (OwnA a e sz cap css) H H') (hn : n = css.length)
  (h1 : ∀ l ∈ css, l.length = sz) (h2 : ∀ l ∈ css, ∀ v ∈ l, v.oneCell' = true) : qfz P K H sz tx (.slice a n cap) css := by
 subst hn
 refine ⟨fun Γ w s => ?_, h1, h2⟩
 obtain ⟨g1, g2, ⟨rfl, rfl, rfl, _⟩ | ⟨b, cur, fz, hfz, rfl, k1, k2, k3, k4, s'⟩⟩ := (s.rem hr).own
 ·exact Src.ofNil w ht 0
 ·refine Src.ofSlice w ht _ _ cap _ (qb8 g1) (fun j u hu => ?_) (fun u hu => ?_)
  ·rw [qbj]
   simp only [World.cell?, s'.blk]
   simpa using k4 j u hu
  ·obtain ⟨l, hl, hu⟩ := List.mem_flatten.1 hu
   exact g2 l hl u hu
def qej (P : Program) (t : TypeId) : Option Nat := (P.info? t).map (·.bytes)
theorem qct : ∀ (off : Nat) (vs l : List Value) (i : Nat), off + vs.length ≤ l.length → (splice off vs l)[i]? = if i < off then l[i]? else if i < off + vs.length then vs[i - off]? else l[i]?
 | 0, [], l, i, _ => by cases l <;> simp [splice]
 | 0, v :: vs, [], i, h => by simp at h
 | 0, v :: vs, x :: l, i, h => by
  cases i with
  | zero => simp [splice]
  | succ i =>
   simp only [splice, List.getElem?_cons_succ]
   rw [qct 0 vs l i (by simp at h ⊢; omega)]
   simp
 | off + 1, vs, [], i, h => by simp at h
 | off + 1, vs, x :: l, i, h => by
  cases i with
  | zero => simp [splice]
  | succ i =>
   simp only [splice, List.getElem?_cons_succ]
   rw [qct off vs l i (by simp at h ⊢; omega)]
   simp [Nat.succ_add]
theorem splice_len : ∀ (off : Nat) (vs l : List Value), (splice off vs l).length = l.length ∨ l.length < off + vs.length
 | 0, [], l => by cases l <;> simp [splice]
 | 0, v :: vs, [] => by simp
 | 0, v :: vs, x :: l => by rcases splice_len 0 vs l with h | h <;> simp [splice] <;> omega
 | off + 1, vs, [] => by simp; omega
 | off + 1, vs, x :: l => by rcases splice_len off vs l with h | h <;> simp [splice] <;> omega
theorem qi9 {Γ : World} {K : Hp} {t tx e ty sz bytes cap : Nat} {z : Value} {a : Option Addr} {x : Value} {css news : List (List Value)} {H : List HProp} {w : World} (s : Sat Γ K (OwnA a e sz cap css :: H) w)
  (ht : P.underlying t = some (.slice e)) (hsz : qbc P e = some sz) (hz : qbk P e = some z) (hzs : z.cells.size = sz) (hpos : 0 < sz) (hby : qej P e = some bytes)
  (hs : qfz P K H sz tx x news) (h63 : css.length + news.length ≤ maxLen) (hb : (css.length + news.length) * bytes ≤ 140737488355328) :
  ∃ a' cap' w', (Builtin.append_ #[t, tx] ty #[.slice a css.length cap, x]).run P w = .ok (.slice a' (css.length + news.length) cap') w' ∧ Sat Γ K (OwnA a' e sz cap' (css ++ news) :: H) w' ∧ (0 < css.length + news.length → Has a') := by
 obtain ⟨hl, ho, hA⟩ := s.own
 obtain ⟨i, hi, hisz⟩ : ∃ i, P.info? e = some i ∧ i.size = sz := by
  unfold qbc at hsz
  cases h : P.info? e with
  | none => simp [h] at hsz
  | some i => simp [h] at hsz; exact ⟨i, rfl, hsz⟩
 have hiz : i.zero = some z := by
  unfold qbk at hz
  simp only [hi, Option.map_some] at hz
  cases h : i.zero with
  | none => simp [h] at hz
  | some z' => simp [h] at hz; rw [hz]
 have hib : i.bytes = bytes := by unfold qej at hby; simpa [hi] using hby
 have hsrc := hs.src Γ w (s.drop)
 have hml : maxLen = 9223372036854775807 := by decide
 have hlall : ∀ l ∈ css ++ news, l.length = sz := fun l h => by rcases List.mem_append.1 h with h | h; exact hl l h; exact hs.len l h
 have hoall : ∀ l ∈ css ++ news, ∀ v ∈ l, v.oneCell' = true := fun l h => by rcases List.mem_append.1 h with h | h; exact ho l h; exact hs.one l h
 have hfl := qb8 hl
 have hfn := qb8 hs.len
 have grow : ∀ (base : Option Addr) (H0 : Sat Γ K H w) (hold : (Builtin.firstCells i.size css.length (.slice base css.length cap)).run P w.drew = .ok css.flatten.toArray w.drew) (hg : cap < css.length + news.length),
   ∃ a' cap' w', (Builtin.append_ #[t, tx] ty #[.slice base css.length cap, x]).run P w = .ok (.slice a' (css.length + news.length) cap') w' ∧ Sat Γ K (OwnA a' e sz cap' (css ++ news) :: H) w' ∧ (0 < css.length + news.length → Has a') := by
  intro base H0 hold hg
  have hfit := growslice_fits (bytes := i.bytes) hg (by rw [hib]; exact hb)
  have hr := run_append_grow_src (P := P) w t tx ty e i z ht hi hiz base css.length cap css.flatten hold x news.length news.flatten (by rw [hisz]; exact hsrc) hg (by omega) hfit
  have hge := grownCap_ge w (css.length + news.length) cap e
  have hcm := grownCap_le_maxLen w (css.length + news.length) cap e h63
  refine ⟨_, _, _, hr, ?_, fun _ => ⟨_, _, rfl⟩⟩
  refine (Sat.push (w := w.drew) H0.drew).mkOwn hlall hoall ?_ (by simpa using hge) hcm ?_
  ·simp only [Array.size_append, List.size_toArray, List.length_append, size_zeroCells, hzs, hfl, hfn, ← Nat.add_mul]
   exact Nat.le_of_eq (by congr 1; omega)
  ·intro j v hj
   have hlt : j < (css ++ news).flatten.length := (List.getElem?_eq_some_iff.1 hj).1
   rw [Array.getElem?_append_left (by simpa using hlt)]
   simpa using hj
 rcases hA with ⟨rfl, rfl, rfl, s0⟩ | ⟨b, cur, fz, hfz, rfl, k1, k2, k3, k4, s0⟩
 ·by_cases hn : news = []
  ·subst hn
   refine ⟨none, 0, w, ?_, by simpa using s0.mkNil, fun h => by simp at h⟩
   have hroom : (0 : Nat) + 0 ≤ 0 := by omega
   have hlen := hsrc.len
   have hcl := hsrc.cells
   rcases hsrc.kind with ⟨e', hk⟩ | hk
   ·simp only [List.length_nil, List.flatten_nil] at hlen hcl ⊢
    simp [Builtin.append_, run_underlying ht, run_underlying hk, qbi hsz, hlen w, hcl]
   ·simp only [List.length_nil, List.flatten_nil] at hlen hcl ⊢
    simp [Builtin.append_, run_underlying ht, run_underlying hk, qbi hsz, hlen w, hcl]
  ·have hpos' : 0 < news.length := List.length_pos_iff.2 hn
   exact grow none s0 (by simp [Builtin.firstCells]) (by simpa using hpos')
 ·by_cases hroom : css.length + news.length ≤ cap
  ·obtain ⟨w', hst, hs'⟩ := Sat.storeCellsF (P := P) (b := b) (T := e) (fz := fz) news.flatten (css.length * sz) 0 cur.toList w (by simpa using s0) (by
    simp only [Nat.add_zero, hfn, Array.length_toList, ← Nat.add_mul]
    exact Nat.le_trans (Nat.mul_le_mul_right _ hroom) k1) (fun v hv => by
     obtain ⟨l, hl', hv⟩ := List.mem_flatten.1 hv
     exact hs.one l hl' v hv) (by simpa using hfz)
   refine ⟨some ⟨b, 0, none⟩, cap, w', ?_, ?_, fun _ => ⟨_, _, rfl⟩⟩
   ·have hlen := hsrc.len
    have hcl := hsrc.cells
    rcases hsrc.kind with ⟨e', hk⟩ | hk <;>
     simp [Builtin.append_, run_underlying ht, run_underlying hk, qbi hsz, hlen w, hroom, hcl, qbj, hst]
   ·have hle : css.length * sz + 0 + news.flatten.length ≤ cur.toList.length := by
     simp only [Nat.add_zero, hfn, Array.length_toList, ← Nat.add_mul]
     exact Nat.le_trans (Nat.mul_le_mul_right _ hroom) k1
    refine hs'.mkOwnF ?_ hlall hoall ?_ (by simpa using hroom) k3 ?_
    ·rcases hfz with h | h
     ·exact .inl h
     ·rcases splice_len (css.length * sz + 0) news.flatten cur.toList with h' | h'
      ·right; rw [show (splice (css.length * sz + 0) news.flatten cur.toList).toArray.size = cur.toList.length from by simpa using h']; simpa using h
      ·omega
    ·rcases splice_len (css.length * sz + 0) news.flatten cur.toList with h | h
     ·rw [show (splice (css.length * sz + 0) news.flatten cur.toList).toArray.size = cur.size from by simpa using h]; exact k1
     ·omega
    ·intro j v hj
     rw [List.getElem?_toArray, qct _ _ _ _ hle]
     simp only [List.flatten_append] at hj
     rw [List.getElem?_append, hfl] at hj
     simp only [Nat.add_zero]
     split at hj
     ·rename_i h1; rw [qx2 h1]; simpa using k4 j v (by rw [hj])
     ·rename_i h1
      rw [qx1 h1, qx2 (by have := (List.getElem?_eq_some_iff.1 hj).1; omega)]
      exact hj
  ·refine grow (some ⟨b, 0, none⟩) s0.drop ?_ (by omega)
   have : ∀ j u, css.flatten[j]? = some u → w.drew.cell? ((⟨b, 0, none⟩ : Addr).add j) = some u := fun j u hu => by
    have h1 := s0.blk
    have h2 : w.drew.heap[b]? = some (.cells cur e fz) := h1
    rw [qbj]
    simp only [World.cell?, h2]
    simpa using k4 j u hu
   exact run_firstCells_some w.drew i.size css.length ⟨b, 0, none⟩ css.length cap css.flatten (by rw [hfl, hisz]) this
theorem qh9 {K : Hp} {t tx e ty sz bytes cap n : Nat} {z : Value} {a : Option Addr} {x : Value} {css news : List (List Value)} {H H' : List HProp} {cs : Array Bool} {c : VP} (hr : Rem (OwnA a e sz cap css) H H')
  (hn : n = css.length) (ht : P.underlying t = some (.slice e)) (hsz : qbc P e = some sz) (hz : qbk P e = some z) (hzs : z.cells.size = sz) (hpos : 0 < sz) (hby : qej P e = some bytes)
  (hs : qfz P K H' sz tx x news) (hb : (css.length + news.length) * bytes ≤ 140737488355328) (h63 : css.length + news.length ≤ 9223372036854775807)
  (h : ∀ a' cap', (0 < css.length + news.length → Has a') → c (.slice a' (css.length + news.length) cap') K (OwnA a' e sz cap' (css ++ news) :: H')) :
  WStep P (.builtin .append #[t, tx] ty cs [.slice a n cap, x]) K H c := by
 subst hn
 refine ⟨fun Γ w s => ?_⟩
 obtain ⟨a', cap', w', h1, h2, h3⟩ := qi9 (ty := ty) (s.rem hr) ht hsz hz hzs hpos hby hs (by simp only [maxLen]; omega) hb
 exact ⟨_, w', _, K, _, by simp [M.sem, Go.builtin, h1], .inl rfl, h2, h a' cap' h3⟩
theorem append_nil {K : Hp} {t tx e ty sz bytes : Nat} {z : Value} {x : Value} {news : List (List Value)} {H : List HProp} {cs : Array Bool} {c : VP}
  (ht : P.underlying t = some (.slice e)) (hsz : qbc P e = some sz) (hz : qbk P e = some z) (hzs : z.cells.size = sz) (hpos : 0 < sz) (hby : qej P e = some bytes)
  (hs : qfz P K H sz tx x news) (hb : news.length * bytes ≤ 140737488355328) (h63 : news.length ≤ 9223372036854775807)
  (h : ∀ a' cap', (0 < news.length → Has a') → c (.slice a' news.length cap') K (OwnA a' e sz cap' news :: H)) :
  WStep P (.builtin .append #[t, tx] ty cs [.slice none 0 0, x]) K H c := by
 refine ⟨fun Γ w s => ?_⟩
 obtain ⟨a', cap', w', h1, h2, h3⟩ := qi9 (ty := ty) (css := []) (s.mkNil (e := e) (sz := sz)) ht hsz hz hzs hpos hby hs (by simp only [maxLen, List.length_nil]; omega) (by simpa using hb)
 simp only [List.length_nil, Nat.zero_add, List.nil_append] at h1 h2 h3
 exact ⟨_, w', _, K, _, by simp [M.sem, Go.builtin, h1], .inl rfl, h2, h a' cap' h3⟩
theorem qal {t e ty n cap : Nat} {a : Option Addr} {cs : Array Bool} {K : Hp} {H : List HProp} {c : Value → Prop} (ht : P.underlying t = some (.slice e)) (h : c (.int .i64 n)) : RStepS P (.builtin .len #[t] ty cs [.slice a n cap]) K H c :=
 RStepS.mk _ (fun Γ w s => by simp [M.sem, Go.builtin, Builtin.len_, run_underlying ht, goInt]) h
theorem qci {t e ty n cap : Nat} {a : Option Addr} {cs : Array Bool} {c : Value → Prop} (ht : P.underlying t = some (.slice e)) (h : c (.int .i64 n)) : NStep P (.builtin .len #[t] ty cs [.slice a n cap]) c :=
 NStep.mk _ (fun w => by simp [M.sem, Go.builtin, Builtin.len_, run_underlying ht, goInt]) h
theorem qq8 {t ty : Nat} {l : List UInt8} {cs : Array Bool} {c : Value → Prop} (ht : P.underlying t = some .string) (h : c (.int .i64 l.length)) : NStep P (.builtin .len #[t] ty cs [str l]) c :=
 NStep.mk _ (fun w => by simp [M.sem, Go.builtin, Builtin.len_, run_underlying ht]; simp [goInt, ByteArray.size]) h
theorem qa4 {t ty : Nat} {l : List UInt8} {cs : Array Bool} {K : Hp} {H : List HProp} {c : Value → Prop} (ht : P.underlying t = some .string) (h : c (.int .i64 l.length)) : RStepS P (.builtin .len #[t] ty cs [str l]) K H c :=
 RStepS.mk _ (fun Γ w s => by simp [M.sem, Go.builtin, Builtin.len_, run_underlying ht]; simp [goInt, ByteArray.size]) h
theorem Sat.ownFreeze {Γ : World} {K : Hp} {a : Option Addr} {e sz cap : Nat} {css : List (List Value)} {H : List HProp} {w : World} (s : Sat Γ K (OwnA a e sz cap css :: H) w) : ∃ K' : Hp, K.Le K' ∧ RdS K' a sz css ∧ Sat Γ K' H w := by
 obtain ⟨hl, ho, ⟨rfl, rfl, rfl, s0⟩ | ⟨b, cur, fz, hfz, rfl, k1, k2, k3, k4, s0⟩⟩ := s.own
 ·exact ⟨K, .refl _, .nil, s0⟩
 ·obtain ⟨K', h1, h2, h3⟩ := s0.freeze
  exact ⟨K', h1, ⟨hl, ho, fun _ => ⟨b, 0, cur.toList.toArray, e, fz, rfl, by simpa using h2, fun i v hv => by simpa using k4 i v hv⟩⟩, h3⟩
theorem CStep.conv {root : Code} {n : Nat} {p : List Nat} {env : List Value} {K : Hp} {H : List HProp} {Q : Exit → KP} (h : ∀ Γ w, Sat Γ K H w → ∃ K' H', Sat Γ K' H' w ∧ CStep P root n p env K' H' Q) : CStep P root n p env K H Q :=
 ⟨CodeStep.mk fun Γ w s => let ⟨K', H', s', h'⟩ := h Γ w s; h'.out.elim Γ w s'⟩
theorem WStep.conv {m : M} {K : Hp} {H : List HProp} {c : VP} (h : ∀ Γ w, Sat Γ K H w → ∃ K' H', Sat Γ K' H' w ∧ WStep P m K' H' c) : WStep P m K H c := by
 exact ⟨fun Γ w s => let ⟨K', H', s', h'⟩ := h Γ w s; h'.elim Γ w s'⟩
theorem CallStep.conv {f : FuncId} {args : List Value} {K : Hp} {H : List HProp} {c : VP} (hf : ∀ a w, (callFunc f a).run P w = .ok (.enter f a) w) (h : ∀ Γ w, Sat Γ K H w → ∃ K' H', Sat Γ K' H' w ∧ CallStep P f args K' H' c) : CallStep P f args K H c := by
 exact ⟨hf, fun Γ w s => let ⟨K', H', s', h'⟩ := h Γ w s; h'.elim.2 Γ w s'⟩
theorem EndStep.conv {K0 : Hp} {F : HProp} {R : VP} {v : Value} {K : Hp} {H : List HProp} (h : ∀ Γ w, Sat Γ K H w → ∃ K' H', Sat Γ K' H' w ∧ EndStep K0 F R v K' H') : EndStep K0 F R v K H := by
 exact ⟨fun Γ w s => let ⟨K', H', s', h'⟩ := h Γ w s; h'.elim Γ w s'⟩
theorem RStep.conv {m : M} {K : Hp} {H : List HProp} {c : Value → Prop} (h : ∀ Γ w, Sat Γ K H w → ∃ K' H', Sat Γ K' H' w ∧ RStep P m K' H' c) : RStep P m K H c := by
 exact ⟨fun Γ w s => let ⟨K', H', s', h'⟩ := h Γ w s; h'.elim Γ w s'⟩
end
open Go
section
variable {P : Program} {α β : Type} [DecidableEq α]
structure qo8 (P : Program) (kt : TypeId) (enc : α → Value) : Prop where
 check : ∀ (empty : Bool) (a : α) (w : World), (Instr.checkKey empty 10000 kt (enc a)).run P w = .ok () w
 same : ∃ d, P.underlying kt = some d ∧ ∀ a b : α, Instr.sameNow d (enc a) (enc b) = some (decide (a = b))
 bits : ∀ a : α, Instr.sameBits 10000 (enc a) (enc a) = true
abbrev strK (l : List UInt8) : Value := str l
theorem qi1 {kt : TypeId} {d : TypeDesc} {v : Value} (n : Nat) (h : P.underlying kt = some d) (hd : match d with | .string | .int _ | .bool => true | _ => false) (empty : Bool) (w : World) :
  (Instr.checkKey empty (n + 1) kt v).run P w = .ok () w := by
 cases d <;> simp_all <;> simp [Instr.checkKey, run_underlying h]
theorem qsl (a b : List UInt8) : ((⟨a.toArray⟩ : ByteArray) == ⟨b.toArray⟩) = decide (a = b) := by
 have : ((⟨a.toArray⟩ : ByteArray) == ⟨b.toArray⟩) = (a.toArray == b.toArray) := rfl
 rw [this]
 by_cases h : a = b
 ·simp [h]
 ·simp [h]
theorem qmb {kt : TypeId} (h : P.underlying kt = some .string) : qo8 P kt strK :=
 ⟨fun e a w => qi1 9999 h rfl e w, ⟨_, h, fun a b => by
  simp only [Instr.sameNow, qsl]⟩, fun a => by
  have : ∀ n, Instr.sameBits n (strK a) (strK a) = true := fun n => by cases n <;> simp [Instr.sameBits, qsl]
  exact this 10000⟩
def mget (m : List (α × β)) (k : α) : Option β := (m.find? fun p => decide (p.1 = k)).map (·.2)
def mset (m : List (α × β)) (k : α) (v : β) : List (α × β) :=
 match mget m k with
 | some _ => m.map fun p => if p.1 = k then (k, v) else p
 | none => m ++ [(k, v)]
@[simp] theorem qv4 (k : α) : mget ([] : List (α × β)) k = none := rfl
theorem qcy (p : α × β) (m : List (α × β)) (k : α) : mget (p :: m) k = if p.1 = k then some p.2 else mget m k := by
 simp only [mget, List.find?_cons]
 by_cases h : p.1 = k <;> simp [h]
theorem qd4 (m : List (α × β)) (k : α) : mget m k = none ↔ k ∉ m.map (·.1) := by
 induction m with
 | nil => simp
 | cons p m ih =>
  rw [qcy]
  by_cases h : p.1 = k
  ·simp [h]
  ·simp only [h, if_false, ih, List.map_cons, List.mem_cons, not_or]
   exact ⟨fun x => ⟨fun e => h e.symm, x⟩, fun x => x.2⟩
theorem qq9 {m : List (α × β)} {k : α} {v : β} (h : mget m k = some v) : (k, v) ∈ m := by
 induction m with
 | nil => simp at h
 | cons p m ih =>
  rw [qcy] at h
  split at h
  ·rename_i e; simp only [Option.some.injEq] at h; rw [← e, ← h]; simp
  ·exact List.mem_cons_of_mem _ (ih h)
theorem qk1 (m : List (α × β)) (k : α) (v : β) : (mset m k v).map (·.1) = if k ∈ m.map (·.1) then m.map (·.1) else m.map (·.1) ++ [k] := by
 unfold mset
 cases h : mget m k with
 | some x =>
  have : k ∈ m.map (·.1) := Classical.byContradiction fun hn => by rw [(qd4 m k).2 hn] at h; cases h
  simp only [this, if_true, List.map_map]
  refine List.map_congr_left fun p _ => ?_
  simp only [Function.comp]
  split
  ·rename_i e; exact e.symm
  ·rfl
 | none => simp [(qd4 m k).1 h]
theorem qja {m : List (α × β)} (hn : (m.map (·.1)).Nodup) (k : α) (v : β) : ((mset m k v).map (·.1)).Nodup := by
 rw [qk1]
 split
 ·exact hn
 ·rename_i h
  rw [List.nodup_append]
  exact ⟨hn, by simp, by rintro a ha b hb rfl; simp at hb; subst hb; exact h ha⟩
def qhl (kenc : α → Value) (venc : β → Value) (b : Nat) (m : List (α × β)) : HProp := fun h =>
 ∃ es clock, h b = some (.map es clock) ∧ es.toList.map (fun e => (e.key, e.val)) = m.map (fun p => (kenc p.1, venc p.2)) ∧ (m.map (·.1)).Nodup ∧ (es.toList.map (·.born)).Nodup ∧ ∀ e ∈ es.toList, e.born < clock
theorem Sat.mapE {Γ : World} {K : Hp} {kenc : α → Value} {venc : β → Value} {b : Nat} {m : List (α × β)} {H : List HProp} {w : World} (s : Sat Γ K (qhl kenc venc b m :: H) w) :
  ∃ es clock, es.toList.map (fun e => (e.key, e.val)) = m.map (fun p => (kenc p.1, venc p.2)) ∧ (m.map (·.1)).Nodup ∧ (es.toList.map (·.born)).Nodup ∧ (∀ e ∈ es.toList, e.born < clock) ∧ Sat Γ K (Blk b (.map es clock) :: H) w := by
 obtain ⟨h, d, ⟨h1, h2, d12, l1, l2, ⟨es, clock, hb, g⟩, rest⟩, y⟩ := s.heap
 exact ⟨es, clock, g.1, g.2.1, g.2.2.1, g.2.2.2, s.os, s.tape, s.output, s.know, h, d, ⟨h1, h2, d12, l1, l2, hb, rest⟩, y⟩
theorem Sat.mkMap {Γ : World} {K : Hp} {kenc : α → Value} {venc : β → Value} {b : Nat} {m : List (α × β)} {H : List HProp} {w : World} {es : Array MapEntry} {clock : Nat} (s : Sat Γ K (Blk b (.map es clock) :: H) w)
  (h1 : es.toList.map (fun e => (e.key, e.val)) = m.map (fun p => (kenc p.1, venc p.2))) (h2 : (m.map (·.1)).Nodup) (h3 : (es.toList.map (·.born)).Nodup) (h4 : ∀ e ∈ es.toList, e.born < clock) : Sat Γ K (qhl kenc venc b m :: H) w :=
 s.conv fun h ⟨x1, x2, d, l1, l2, hb, rest⟩ => ⟨x1, x2, d, l1, l2, ⟨es, clock, hb, h1, h2, h3, h4⟩, rest⟩
theorem qjb {w : World} {b : Nat} {o : Obj} (h : w.heap[b]? = some o) (hc : ∀ c e f, o ≠ .cells c e f) : (getObj b).run P w = .ok o w := by
 cases o <;> simp_all [getObj, Sem.run]
theorem qjc {w : World} {b : Nat} {o o' : Obj} (h : w.heap[b]? = some o) (hc : ∀ c e f, o ≠ .cells c e f) : (setObj b o').run P w = .ok () { w with heap := w.heap.setIfInBounds b o' } := by
 cases o <;> simp_all [setObj, Sem.run]
theorem qg8 {kt : TypeId} {kenc : α → Value} {venc : β → Value} {d : TypeDesc} (hk : ∀ a b : α, Instr.sameNow d (kenc a) (kenc b) = some (decide (a = b))) (k : α) : ∀ (es : List MapEntry) (m : List (α × β)) (i : Nat),
  es.map (fun e => (e.key, e.val)) = m.map (fun p => (kenc p.1, venc p.2)) →
  Instr.findNow d (kenc k) es i = some (match m.findIdx? (fun p => decide (p.1 = k)), mget m k with
   | some j, some x => some (i + j, venc x)
   | _, _ => none)
 | [], [], i, _ => by simp [Instr.findNow]
 | [], _ :: _, i, h => by simp at h
 | _ :: _, [], i, h => by simp at h
 | e :: es, p :: m, i, h => by
  simp only [List.map_cons, List.cons.injEq, Prod.mk.injEq] at h
  obtain ⟨⟨h1, h2⟩, h3⟩ := h
  simp only [Instr.findNow, h1, hk, qcy, List.findIdx?_cons]
  by_cases hp : k = p.1
  ·subst hp; simp [h2]
  ·have hp' : ¬ p.1 = k := fun e => hp e.symm
   simp only [hp, hp', decide_false, Bool.false_eq_true, if_false]
   rw [qg8 (kt := kt) hk k es m (i + 1) h3]
   cases hf : m.findIdx? (fun p => decide (p.1 = k)) with
   | none => simp
   | some j =>
    cases hg : mget m k with
    | none => simp
    | some x => simp; omega
theorem qg9 (m : List (α × β)) (k : α) : (m.findIdx? (fun p => decide (p.1 = k))).isSome = (mget m k).isSome := by
 induction m with
 | nil => rfl
 | cons p m ih =>
  rw [List.findIdx?_cons, qcy]
  by_cases h : p.1 = k
  ·simp [h]
  ·simp [h, ih]
theorem qia {kt : TypeId} {kenc : α → Value} {venc : β → Value} (hk : qo8 P kt kenc) {es : Array MapEntry} {m : List (α × β)} (he : es.toList.map (fun e => (e.key, e.val)) = m.map (fun p => (kenc p.1, venc p.2))) (k : α) (w : World) :
  (Instr.findKey kt (kenc k) es.toList).run P w = .ok (match m.findIdx? (fun p => decide (p.1 = k)), mget m k with
   | some j, some x => some (j, venc x)
   | _, _ => none) w := by
 obtain ⟨d, hd, hs⟩ := hk.same
 simp only [Instr.findKey, Sem.run_bind, run_underlying hd, Result.andThen_ok]
 rw [qg8 (kt := kt) hs k es.toList m 0 he]
 simp
theorem qf0 {t kt et b : Nat} {kenc : α → Value} {venc : β → Value} {m : List (α × β)} {k : α} {z : β} {K : Hp} {H H' : List HProp} {c : Value → Prop} (hr : Rem (qhl kenc venc b m) H H')
  (ht : P.underlying t = some (.map kt et)) (hz : qbk P et = some (venc z)) (hk : qo8 P kt kenc) (h : c (.tuple #[venc ((mget m k).getD z), .bool (mget m k).isSome])) :
  RStepS P (.lookup t (.map (some b)) (kenc k) true) K H c := by
 refine RStepS.mk _ (fun Γ w s => ?_) h
 obtain ⟨es, clock, g1, g2, g3, g4, s'⟩ := (s.rem hr).mapE
 have hf := qia hk g1 k w
 have hg := qjb (P := P) s'.blk (by simp)
 simp only [M.sem, Instr.lookup, Sem.run_bind, run_underlying ht, Result.andThen_ok, hg, hk.check, Sem.run_pure, hf]
 have hfi := qg9 m k
 cases hm : mget m k with
 | none =>
  rw [hm] at hfi
  have : m.findIdx? (fun p => decide (p.1 = k)) = none := Option.not_isSome_iff_eq_none.1 (by rw [hfi]; simp)
  simp [this, qdv hz]
 | some x =>
  rw [hm] at hfi
  obtain ⟨j, hj⟩ := Option.isSome_iff_exists.1 hfi
  simp [hj]
theorem Sat.setMap {Γ : World} {K : Hp} {b : Nat} {o o' : Obj} {H : List HProp} {w : World} (s : Sat Γ K (Blk b o :: H) w) : Sat Γ K (Blk b o' :: H) { w with heap := w.heap.setIfInBounds b o' } := by
 have hb := (Array.getElem?_eq_some_iff.1 s.blk).1
 exact s.upd rfl rfl rfl (by simp [hb]) fun i hi => by simp [Array.getElem?_setIfInBounds]; intro e; exact absurd e.symm hi
theorem qmc (m : List (α × β)) (k : α) (v : β) (hn : (m.map (·.1)).Nodup) : ∀ j, m.findIdx? (fun p => decide (p.1 = k)) = some j → m.modify j (fun p => (k, v)) = m.map fun p => if p.1 = k then (k, v) else p := by
 induction m with
 | nil => intro j h; simp at h
 | cons p m ih =>
  intro j h
  simp only [List.map_cons, List.nodup_cons] at hn
  rw [List.findIdx?_cons] at h
  by_cases hp : p.1 = k
  ·simp only [hp, decide_true, if_true, Option.some.injEq] at h
   subst h
   simp only [List.modify_zero_cons, List.map_cons, hp, if_true]
   congr 1
   have : ∀ q ∈ m, ¬ q.1 = k := fun q hq e => hn.1 (List.mem_map.2 ⟨q, hq, by rw [e, hp]⟩)
   rw [List.map_congr_left (g := id) fun q hq => by simp [this q hq]]
   simp
  ·simp only [hp, decide_false, Bool.false_eq_true, if_false] at h
   cases hj : m.findIdx? (fun p => decide (p.1 = k)) with
   | none => simp [hj] at h
   | some i =>
    simp [hj] at h; subst h
    simp only [List.modify_succ_cons, List.map_cons, hp, if_false]
    rw [ih hn.2 i hj]
theorem qmd {t kt et b : Nat} {kenc : α → Value} {venc : β → Value} {m : List (α × β)} {k : α} (v : β) {x : Value} {K : Hp} {H H' : List HProp} {c : VP} (hx : x = venc v) (hr : Rem (qhl kenc venc b m) H H')
  (ht : P.underlying t = some (.map kt et)) (hk : qo8 P kt kenc) (h : c undef K (qhl kenc venc b (mset m k v) :: H')) :
  WStep P (.mapUpdate t (.map (some b)) (kenc k) x) K H c := by
 subst hx
 refine ⟨fun Γ w s => ?_⟩
 obtain ⟨es, clock, g1, g2, g3, g4, s'⟩ := (s.rem hr).mapE
 have hf := qia hk g1 k w
 have hg := qjb (P := P) s'.blk (by simp)
 have hfi := qg9 m k
 cases hm : mget m k with
 | none =>
  rw [hm] at hfi
  have hj : m.findIdx? (fun p => decide (p.1 = k)) = none := Option.not_isSome_iff_eq_none.1 (by rw [hfi]; simp)
  refine ⟨.skip, { w with heap := w.heap.setIfInBounds b (.map (es.push { key := kenc k, val := venc v, born := clock }) (clock + 1)) }, undef, K, _, ?_, .inr ⟨rfl, rfl⟩, ?_, h⟩
  rotate_left
  ·refine Sat.mkMap (es := es.push { key := kenc k, val := venc v, born := clock }) (clock := clock + 1) s'.setMap ?_ (qja g2 k v) ?_ ?_
   ·simp [mset, hm, g1]
   ·simp only [Array.toList_push, List.map_append, List.map_cons, List.map_nil]
    rw [List.nodup_append]
    refine ⟨g3, by simp, ?_⟩
    rintro a ha b hb rfl
    simp at hb
    obtain ⟨e, he, rfl⟩ := List.mem_map.1 ha
    have := g4 e he
    omega
   ·intro e he
    simp only [Array.toList_push, List.mem_append, List.mem_singleton] at he
    rcases he with he | rfl
    ·have := g4 e he; omega
    ·simp
  ·have hso := qjc (P := P) (o' := .map (es.push { key := kenc k, val := venc v, born := clock }) (clock + 1)) s'.blk (by simp)
   simp only [M.sem, Instr.mapUpdate, Sem.run_bind, run_underlying ht, Result.andThen_ok, hg, hk.check, hf, hj, hso, Sem.run_pure]
 | some y =>
  rw [hm] at hfi
  obtain ⟨j, hj⟩ := Option.isSome_iff_exists.1 hfi
  have hjlt : j < m.length := (List.findIdx?_eq_some_iff_getElem.1 hj).1
  have hlen : es.toList.length = m.length := by simpa using congrArg List.length g1
  have hkey : (es[j]?).map (·.key) = some (kenc k) := by
   have h1 := congrArg (fun l => (l[j]?).map Prod.fst) g1
   simp only [List.getElem?_map, Option.map_map] at h1
   have h2 : m[j]? = some m[j] := List.getElem?_eq_getElem hjlt
   have h3 := (List.findIdx?_eq_some_iff_getElem.1 hj).2.1
   simp only [decide_eq_true_eq] at h3
   have h4 : (es.toList[j]?).map (·.key) = some (kenc k) := by
    rw [h2] at h1
    simpa [Function.comp_def, h3] using h1
   simpa using h4
  have hks : (((es[j]?).map (·.key)).getD (kenc k)) = kenc k := by rw [hkey]; rfl
  have hstay : (Instr.keyThatStays (kenc k) (kenc k)).run P w = .ok (kenc k) w := by simp [Instr.keyThatStays, hk.bits]
  refine ⟨.skip, { w with heap := w.heap.setIfInBounds b (.map (es.modify j fun e => { e with key := kenc k, val := venc v }) clock) }, undef, K, _, ?_, .inr ⟨rfl, rfl⟩, ?_, h⟩
  rotate_left
  ·refine Sat.mkMap (es := es.modify j fun e => { e with key := kenc k, val := venc v }) (clock := clock) s'.setMap ?_ (qja g2 k v) ?_ ?_
   ·have e1 : (mset m k v) = m.modify j (fun p => (k, v)) := by simp [mset, hm, qmc m k v g2 j hj]
    rw [e1, Array.toList_modify]
    rw [show (List.modify (es.toList) j fun e => ({ e with key := kenc k, val := venc v } : MapEntry)).map (fun e => (e.key, e.val)) = (es.toList.map (fun e => (e.key, e.val))).modify j (fun _ => (kenc k, venc v)) from by
     apply List.ext_getElem?; intro i; simp only [List.getElem?_map, List.getElem?_modify]; cases es.toList[i]? <;> simp; split <;> simp]
    rw [g1]
    apply List.ext_getElem?; intro i; simp only [List.getElem?_map, List.getElem?_modify]; cases m[i]? <;> simp; split <;> simp
   ·rw [Array.toList_modify]
    rw [show (List.modify (es.toList) j fun e => ({ e with key := kenc k, val := venc v } : MapEntry)).map (·.born) = es.toList.map (·.born) from by
     apply List.ext_getElem?; intro i; simp only [List.getElem?_map, List.getElem?_modify]; cases es.toList[i]? <;> simp; split <;> rfl]
    exact g3
   ·intro e he
    rw [Array.toList_modify] at he
    obtain ⟨i, hi⟩ := List.getElem?_of_mem he
    rw [List.getElem?_modify] at hi
    cases hx : es.toList[i]? with
    | none => simp [hx] at hi
    | some e0 =>
     have := g4 e0 (List.mem_of_getElem? hx)
     rw [hx] at hi
     simp only [Option.map_eq_map, Option.map_some, Option.some.injEq] at hi
     subst hi
     split <;> exact this
  ·have hso := qjc (P := P) (o' := .map (es.modify j fun e => { e with key := kenc k, val := venc v }) clock) s'.blk (by simp)
   simp only [M.sem, Instr.mapUpdate, Sem.run_bind, run_underlying ht, Result.andThen_ok, hg, hk.check, hf, hj, hm, hks, hstay, hso, Sem.run_pure]
theorem qk2 {t : Nat} (kenc : α → Value) (venc : β → Value) {K : Hp} {H : List HProp} {c : VP} (h : ∀ b, c (.map (some b)) K (qhl kenc venc b [] :: H)) : WStep P (.makeMap t none) K H c := by
 refine ⟨fun Γ w s => ?_⟩
 refine ⟨_, { w with heap := w.heap.push (.map #[] 0) }, .map (some w.heap.size), K, _, by simp [M.sem, Instr.makeMap], .inl rfl, ?_, h w.heap.size⟩
 exact Sat.mkMap (es := #[]) (clock := 0) s.push (by simp) (by simp) (by simp) (by simp)
end
open Go Go.RowKit
def old (w : World) : Hp := fun b => w.heap[b]?
theorem Sat.old {w : World} {F : HProp} (hF : F fun _ => none) : Sat w (old w) ([] ++ [F]) w :=
 ⟨rfl, rfl, rfl, fun i o h => h, fun _ => none, fun _ => .inr rfl, ⟨fun _ => none, fun _ => none, fun _ => .inl rfl, .refl _, .refl _, hF, trivial⟩, fun i o h => by cases h⟩
theorem qra {w w' : World} {K' : Hp} {H : List HProp} (hk : (old w).Le K') (s : Sat w K' H w') : Below w.heap.size w w' := by
 have hb : ∀ k, k < w.heap.size → w'.heap[k]? = w.heap[k]? := fun k hk' => by
  obtain ⟨o, ho⟩ : ∃ o, w.heap[k]? = some o := ⟨w.heap[k], by simp [hk']⟩
  rw [ho]; exact s.know k o (hk k o ho)
 refine ⟨s.os, s.tape, s.output, ?_, hb⟩
 rcases Nat.eq_zero_or_pos w.heap.size with h0 | h0
 ·omega
 ·have h1 := hb (w.heap.size - 1) (by omega)
  have h2 : w'.heap[w.heap.size - 1]? ≠ none := by rw [h1]; simp; omega
  have h3 : w.heap.size - 1 < w'.heap.size := Classical.byContradiction fun e => h2 (by simp; omega)
  omega
theorem qo9 {P : Program} {f : FuncId} {args : List Value} {w : World} {v : Value} (h : Fn P f args (old w) [] (fun r K' H' => r = v)) :
  Calls P f args.toArray w fun e w' => e = .returned v ∧ Below w.heap.size w w' :=
 (h.2 (qw5 True) w w (Sat.old trivial)).mono fun e w' ⟨r, K', H', he, hk, hr, s⟩ => by subst hr; exact ⟨he, qra hk s⟩
open Go
section
variable {P : Program}
def qk3 (sz : Nat) : Nat → Nat → List (Nat × Nat)
 | _, 0 => []
 | i, n + 1 => (i * sz, sz) :: qk3 sz (i + 1) n
theorem qgt (sz : Nat) : ∀ (n i0 i : Nat) (p : Nat × Nat), (qk3 sz i0 n)[i]? = some p → p = ((i0 + i) * sz, sz)
 | 0, _, i, p, h => by simp [qk3] at h
 | n + 1, i0, 0, p, h => by simp [qk3] at h; simp [← h]
 | n + 1, i0, i + 1, p, h => by
  simp only [qk3, List.getElem?_cons_succ] at h
  have := qgt sz n (i0 + 1) i p h
  rw [this, Nat.add_assoc, Nat.add_comm 1 i]
def zrow (z : Array Value) : Nat → Nat → List Value
 | _, 0 => []
 | i, n + 1 => z[i % z.size]! :: zrow z (i + 1) n
theorem qk4 (z : Array Value) : ∀ (n i : Nat), zrow z i n = (List.range n).map fun j => z[(i + j) % z.size]!
 | 0, i => rfl
 | n + 1, i => by
  rw [List.range_succ_eq_map, List.map_cons, List.map_map]
  simp only [zrow, qk4 z n (i + 1)]
  congr 1
  apply List.map_congr_left
  intro j _
  simp [Nat.add_assoc, Nat.add_comm 1 j]
theorem qib {t e sz len : Nat} {z : Value} {parts : List (Nat × Value)} {K : Hp} {H : List HProp} {c : VP} (ht : P.underlying t = some (.slice e)) (hsz : qbc P e = some sz) (hz : qbk P e = some z)
  (hb : len * sz ≤ 16777216) (h : buildK (qk3 sz 0 len) parts (zrow z.cells 0 (len * sz)) fun cs => ∀ b, c (.slice (some ⟨b, 0, none⟩) len len) K (Cells b e cs :: H)) : WStep P (.buildSlice t len parts) K H c := by
 by_cases h0 : len * sz = 0
 ·have e0 : zrow z.cells 0 (len * sz) = (#[] : Array Value).toList := by simp [h0, zrow]
  rw [e0] at h
  obtain ⟨cs, h1, h2⟩ := qfx (place := fun i => some (i * sz, sz)) (fun i p hp => by have := qgt sz _ _ _ _ hp; simp [this]) h
  refine ⟨fun Γ w s => ⟨_, { w with heap := w.heap.push (.cells cs e (0, 0)) }, _, K, _, ?_, .inl rfl, ?_, h2 w.heap.size⟩⟩
  ·simp only [M.sem, Instr.buildSlice, Sem.run_bind, run_underlying ht, Result.andThen_ok, qbi hsz, h0]
   simp [h1, newRow, show Array.range 0 = #[] from rfl]
  ·have := s.push (o := .cells cs e (0, 0))
   simpa [Cells] using this
 ·have e0 : zrow z.cells 0 (len * sz) = ((Array.range (len * sz)).map (z.cells[· % z.cells.size]!)).toList := by simp [qk4]
  rw [e0] at h
  obtain ⟨cs, h1, h2⟩ := qfx (place := fun i => some (i * sz, sz)) (fun i p hp => by have := qgt sz _ _ _ _ hp; simp [this]) h
  refine ⟨fun Γ w s => ⟨_, { w with heap := w.heap.push (.cells cs e (0, 0)) }, _, K, _, ?_, .inl rfl, ?_, h2 w.heap.size⟩⟩
  ·have hn : ¬ len * sz > 2 ^ 24 := by omega
   simp only [M.sem, Instr.buildSlice, Sem.run_bind, run_underlying ht, Result.andThen_ok, qbi hsz, qx1 hn, qx1 h0, qdv hz, Sem.run_pure]
   simp [h1, newRow]
  ·have := s.push (o := .cells cs e (0, 0))
   simpa [Cells] using this
end
end Go.SL
