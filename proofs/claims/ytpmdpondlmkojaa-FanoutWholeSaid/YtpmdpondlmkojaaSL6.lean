/- The rules, second part: numbers, texts, slices that are read, slices that are owned. -/
import Derived.Test.YtpmdpondlmkojaaSL5
import Derived.Deep.AppendSrc
set_option linter.unusedVariables false
namespace Go.SL
open Go

section
variable {P : Program}

/-! ### numbers -/
def InK : IntKind → Int → Prop
  | .i8, n => -128 ≤ n ∧ n ≤ 127
  | .i16, n => -32768 ≤ n ∧ n ≤ 32767
  | .i32, n => -2147483648 ≤ n ∧ n ≤ 2147483647
  | .i64, n => -9223372036854775808 ≤ n ∧ n ≤ 9223372036854775807
  | .u8, n => 0 ≤ n ∧ n ≤ 255
  | .u16, n => 0 ≤ n ∧ n ≤ 65535
  | .u32, n => 0 ≤ n ∧ n ≤ 4294967295
  | .u64, n => 0 ≤ n ∧ n ≤ 18446744073709551615
theorem wrap_in {k : IntKind} {n : Int} (h : InK k n) : k.wrap n = n := by
  cases k <;> simp only [InK] at h <;> simp only [IntKind.wrap, IntKind.bits, IntKind.signed] <;> simp <;> omega
theorem int_in {k : IntKind} {e : Int} {c : Value → Prop} (hi : InK k e) (h : c (.int k e)) : IntStep k e c := by
  exact ⟨by rw [wrap_in hi]; exact h⟩
theorem int_wrap {k : IntKind} {e : Int} {c : Value → Prop} (h : c (.int k (k.wrap e))) : IntStep k e c := by
  exact ⟨h⟩

theorem NStep.mk {m : M} {c : Value → Prop} (v : Value) (hr : ∀ w, m.sem.run P w = .ok (.value v) w) (h : c v) : NStep P m c := by
  exact ⟨v, hr, h⟩
theorem RStepS.mk {m : M} {K : Hp} {H : List HProp} {c : Value → Prop} (v : Value) (hr : ∀ Γ w, Sat Γ K H w → m.sem.run P w = .ok (.value v) w) (h : c v) : RStepS P m K H c := by
  exact ⟨v, hr, h⟩
theorem NStep.ofR {m : M} {K : Hp} {H : List HProp} {c : Value → Prop} (h : NStep P m c) : RStepS P m K H c := by
  obtain ⟨v, h1, h2⟩ := h.elim
  exact RStepS.mk v (fun _ w _ => h1 w) h2

theorem eq_int {t : TypeId} {xo yo : Operand} {k : IntKind} {a b : Int} {c : Value → Prop} (h : c (.bool (decide (a = b)))) : NStep P (.bin .eql t xo yo (.int k a) (.int k b)) c :=
  NStep.mk _ (fun w => by simp [M.sem, eqGuard, binOp, Op.intCmp]; by_cases h : a = b <;> simp [h]) h
theorem neq_int {t : TypeId} {xo yo : Operand} {k : IntKind} {a b : Int} {c : Value → Prop} (h : c (.bool (decide (a ≠ b)))) : NStep P (.bin .neq t xo yo (.int k a) (.int k b)) c :=
  NStep.mk _ (fun w => by simp [M.sem, eqGuard, binOp, Op.intCmp]; by_cases h : a = b <;> simp [h]) h
theorem NStep.eql {t : TypeId} {xo yo : Operand} {x y : Value} {c : Value → Prop} (b : Bool) (hg : ∀ w, (eqGuard .eql t xo yo x y).run P w = .ok () w) (hb : binOp .eql t x y = (do pure (.bool (← Op.equal t x y))))
    (he : ∀ d w, (Op.equalIn (d + 1) t x y).run P w = .ok b w) (h : c (.bool b)) : NStep P (.bin .eql t xo yo x y) c :=
  NStep.mk _ (fun w => by
    have : (Op.equal t x y).run P w = .ok b w := he 9999 w
    simp only [M.sem, hb, Sem.run_bind, hg, Result.andThen_ok, this, Sem.run_pure]) h
theorem NStep.neq {t : TypeId} {xo yo : Operand} {x y : Value} {c : Value → Prop} (b : Bool) (hg : ∀ w, (eqGuard .neq t xo yo x y).run P w = .ok () w) (hb : binOp .neq t x y = (do pure (.bool (!(← Op.equal t x y)))))
    (he : ∀ d w, (Op.equalIn (d + 1) t x y).run P w = .ok b w) (h : c (.bool (!b))) : NStep P (.bin .neq t xo yo x y) c :=
  NStep.mk _ (fun w => by
    have : (Op.equal t x y).run P w = .ok b w := he 9999 w
    simp only [M.sem, hb, Sem.run_bind, hg, Result.andThen_ok, this, Sem.run_pure]) h
theorem eq_bool {t : TypeId} {xo yo : Operand} {a b : Bool} {c : Value → Prop} (ht : P.underlying t = some .bool) (h : c (.bool (a == b))) : NStep P (.bin .eql t xo yo (.bool a) (.bool b)) c :=
  NStep.eql (a == b) (fun w => by simp [eqGuard]) rfl (fun d w => by simp [Op.equalIn, run_underlying ht]) h
theorem neq_bool {t : TypeId} {xo yo : Operand} {a b : Bool} {c : Value → Prop} (ht : P.underlying t = some .bool) (h : c (.bool (!(a == b)))) : NStep P (.bin .neq t xo yo (.bool a) (.bool b)) c :=
  NStep.neq (a == b) (fun w => by simp [eqGuard]) rfl (fun d w => by simp [Op.equalIn, run_underlying ht]) h
abbrev str (l : List UInt8) : Value := .string ⟨l.toArray⟩
theorem toList_mk (l : List UInt8) : (⟨l.toArray⟩ : ByteArray).toList = l := by
  simp [ByteArray.toList_eq]
theorem eq_str {t : TypeId} {xo yo : Operand} {a b : List UInt8} {c : Value → Prop} (h : c (.bool (decide (a = b)))) : NStep P (.bin .eql t xo yo (str a) (str b)) c :=
  NStep.mk _ (fun w => by first | (simp [M.sem, eqGuard, binOp, Op.stringOp]; done) | (simp [M.sem, eqGuard, binOp, Op.stringOp]; by_cases h : a = b <;> simp [h])) h
theorem neq_str {t : TypeId} {xo yo : Operand} {a b : List UInt8} {c : Value → Prop} (h : c (.bool (decide (a ≠ b)))) : NStep P (.bin .neq t xo yo (str a) (str b)) c :=
  NStep.mk _ (fun w => by first | (simp [M.sem, eqGuard, binOp, Op.stringOp]; done) | (simp [M.sem, eqGuard, binOp, Op.stringOp]; by_cases h : a = b <;> simp [h])) h
theorem lss_str {t : TypeId} {xo yo : Operand} {a b : List UInt8} {c : Value → Prop} (h : c (.bool (Op.bytesLess a b))) : NStep P (.bin .lss t xo yo (str a) (str b)) c :=
  NStep.mk _ (fun w => by first | (simp [M.sem, eqGuard, binOp, Op.stringOp]; done) | (simp [M.sem, eqGuard, binOp, Op.stringOp]; by_cases h : a = b <;> simp [h])) h
theorem geq_str {t : TypeId} {xo yo : Operand} {a b : List UInt8} {c : Value → Prop} (h : c (.bool (!Op.bytesLess a b))) : NStep P (.bin .geq t xo yo (str a) (str b)) c :=
  NStep.mk _ (fun w => by first | (simp [M.sem, eqGuard, binOp, Op.stringOp]; done) | (simp [M.sem, eqGuard, binOp, Op.stringOp]; by_cases h : a = b <;> simp [h])) h
theorem leq_str {t : TypeId} {xo yo : Operand} {a b : List UInt8} {c : Value → Prop} (h : c (.bool (Op.bytesLess a b || decide (a = b)))) : NStep P (.bin .leq t xo yo (str a) (str b)) c :=
  NStep.mk _ (fun w => by first | (simp [M.sem, eqGuard, binOp, Op.stringOp]; done) | (simp [M.sem, eqGuard, binOp, Op.stringOp]; by_cases h : a = b <;> simp [h])) h
theorem gtr_str {t : TypeId} {xo yo : Operand} {a b : List UInt8} {c : Value → Prop} (h : c (.bool (!(Op.bytesLess a b || decide (a = b))))) : NStep P (.bin .gtr t xo yo (str a) (str b)) c :=
  NStep.mk _ (fun w => by first | (simp [M.sem, eqGuard, binOp, Op.stringOp]; done) | (simp [M.sem, eqGuard, binOp, Op.stringOp]; by_cases h : a = b <;> simp [h])) h
theorem add_str {t : TypeId} {xo yo : Operand} {a b : List UInt8} {c : Value → Prop} (hl : a.length + b.length ≤ 9223372036854775807) (h : c (str (a ++ b))) : NStep P (.bin .add t xo yo (str a) (str b)) c :=
  NStep.mk _ (fun w => by
    have : ¬ ((((⟨a.toArray⟩ : ByteArray).size + (⟨b.toArray⟩ : ByteArray).size : Nat) : Int) > IntKind.i64.max) := by
      simp [ByteArray.size, IntKind.max, IntKind.bits, IntKind.signed]; omega
    simp only [M.sem, eqGuard, binOp, Op.stringOp, if_neg this]
    simp
    rfl) h

/-- nil held against a pointer, an interface value, a map, a slice. -/
theorem eq_ptr_nil {t e : TypeId} {a : Addr} {xo yo : Operand} {c : Value → Prop} (ht : P.underlying t = some (.pointer e)) (h : c (.bool false)) : NStep P (.bin .eql t xo yo (.pointer (some a)) (.pointer none)) c :=
  NStep.eql false (fun w => by simp [eqGuard]) rfl (fun d w => by simp [Op.equalIn, run_underlying ht]) h
theorem neq_ptr_nil {t e : TypeId} {a : Addr} {xo yo : Operand} {c : Value → Prop} (ht : P.underlying t = some (.pointer e)) (h : c (.bool true)) : NStep P (.bin .neq t xo yo (.pointer (some a)) (.pointer none)) c :=
  NStep.neq false (fun w => by simp [eqGuard]) rfl (fun d w => by simp [Op.equalIn, run_underlying ht]) h
theorem eq_nil_nil {t e : TypeId} {xo yo : Operand} {c : Value → Prop} (ht : P.underlying t = some (.pointer e)) (h : c (.bool true)) : NStep P (.bin .eql t xo yo (.pointer none) (.pointer none)) c :=
  NStep.eql true (fun w => by simp [eqGuard]) rfl (fun d w => by simp [Op.equalIn, run_underlying ht]) h
theorem neq_nil_nil {t e : TypeId} {xo yo : Operand} {c : Value → Prop} (ht : P.underlying t = some (.pointer e)) (h : c (.bool false)) : NStep P (.bin .neq t xo yo (.pointer none) (.pointer none)) c :=
  NStep.neq true (fun w => by simp [eqGuard]) rfl (fun d w => by simp [Op.equalIn, run_underlying ht]) h
theorem eq_iface_nil {t u : TypeId} {ms : Array (String × TypeId)} {x : Value} {xo yo : Operand} {c : Value → Prop} (ht : P.underlying t = some (.interface ms)) (h : c (.bool false)) : NStep P (.bin .eql t xo yo (.iface u x) .nilIface) c :=
  NStep.eql false (fun w => by simp [eqGuard]) rfl (fun d w => by simp [Op.equalIn, run_underlying ht]) h
theorem neq_iface_nil {t u : TypeId} {ms : Array (String × TypeId)} {x : Value} {xo yo : Operand} {c : Value → Prop} (ht : P.underlying t = some (.interface ms)) (h : c (.bool true)) : NStep P (.bin .neq t xo yo (.iface u x) .nilIface) c :=
  NStep.neq false (fun w => by simp [eqGuard]) rfl (fun d w => by simp [Op.equalIn, run_underlying ht]) h
theorem eq_map_nil {t k e : TypeId} {b : Nat} {xo yo : Operand} {c : Value → Prop} (ht : P.underlying t = some (.map k e)) (h : c (.bool false)) : NStep P (.bin .eql t xo yo (.map (some b)) (.map none)) c :=
  NStep.eql false (fun w => by simp [eqGuard]) rfl (fun d w => by simp [Op.equalIn, run_underlying ht]) h
theorem neq_map_nil {t k e : TypeId} {b : Nat} {xo yo : Operand} {c : Value → Prop} (ht : P.underlying t = some (.map k e)) (h : c (.bool true)) : NStep P (.bin .neq t xo yo (.map (some b)) (.map none)) c :=
  NStep.neq false (fun w => by simp [eqGuard]) rfl (fun d w => by simp [Op.equalIn, run_underlying ht]) h
theorem eq_slice_nil {t e : TypeId} {a : Addr} {n m : Nat} {xo yo : Operand} {c : Value → Prop} (ht : P.underlying t = some (.slice e)) (h : c (.bool false)) : NStep P (.bin .eql t xo yo (.slice (some a) n m) (.slice none 0 0)) c :=
  NStep.eql false (fun w => by simp [eqGuard]) rfl (fun d w => by simp [Op.equalIn, run_underlying ht]) h
theorem neq_slice_nil {t e : TypeId} {a : Addr} {n m : Nat} {xo yo : Operand} {c : Value → Prop} (ht : P.underlying t = some (.slice e)) (h : c (.bool true)) : NStep P (.bin .neq t xo yo (.slice (some a) n m) (.slice none 0 0)) c :=
  NStep.neq false (fun w => by simp [eqGuard]) rfl (fun d w => by simp [Op.equalIn, run_underlying ht]) h
theorem eq_snil_nil {t e : TypeId} {n m : Nat} {xo yo : Operand} {c : Value → Prop} (ht : P.underlying t = some (.slice e)) (h : c (.bool true)) : NStep P (.bin .eql t xo yo (.slice none n m) (.slice none 0 0)) c :=
  NStep.eql true (fun w => by simp [eqGuard]) rfl (fun d w => by simp [Op.equalIn, run_underlying ht]) h
theorem neq_snil_nil {t e : TypeId} {n m : Nat} {xo yo : Operand} {c : Value → Prop} (ht : P.underlying t = some (.slice e)) (h : c (.bool false)) : NStep P (.bin .neq t xo yo (.slice none n m) (.slice none 0 0)) c :=
  NStep.neq true (fun w => by simp [eqGuard]) rfl (fun d w => by simp [Op.equalIn, run_underlying ht]) h
theorem eq_nilI {t : TypeId} {ms : Array (String × TypeId)} {xo : Operand} {cv : Value} {c : Value → Prop} (ht : P.underlying t = some (.interface ms)) (h : c (.bool true)) : NStep P (.bin .eql t xo (.const cv) .nilIface .nilIface) c :=
  NStep.eql true (fun w => by simp [eqGuard]) rfl (fun d w => by simp [Op.equalIn, run_underlying ht]) h
theorem neq_nilI {t : TypeId} {ms : Array (String × TypeId)} {xo : Operand} {cv : Value} {c : Value → Prop} (ht : P.underlying t = some (.interface ms)) (h : c (.bool false)) : NStep P (.bin .neq t xo (.const cv) .nilIface .nilIface) c :=
  NStep.neq true (fun w => by simp [eqGuard]) rfl (fun d w => by simp [Op.equalIn, run_underlying ht]) h

theorem un_not {b : Bool} {c : Value → Prop} (h : c (.bool (!b))) : NStep P (.un .not (.bool b)) c := NStep.mk _ (fun w => by simp [M.sem, Op.unary]) h
theorem un_neg {k : IntKind} {n : Int} {c : Value → Prop} (hi : InK k (-n)) (h : c (.int k (-n))) : NStep P (.un .neg (.int k n)) c :=
  NStep.mk _ (fun w => by simp [M.sem, Op.unary, Op.intArith, wrap_in hi]) h

theorem rem_pos {t : TypeId} {xo yo : Operand} {k : IntKind} {a b : Int} {c : Value → Prop} (ha : 0 ≤ a) (hb : 0 < b) (h : c (.int k (a % b))) : NStep P (.bin .rem t xo yo (.int k a) (.int k b)) c :=
  NStep.mk _ (fun w => by
    have hb' : b ≠ 0 := by omega
    simp [M.sem, eqGuard, binOp, Op.intDiv, hb', Int.tmod_eq_emod_of_nonneg ha]) h
theorem quo_pos {t : TypeId} {xo yo : Operand} {k : IntKind} {a b : Int} {c : Value → Prop} (ha : 0 ≤ a) (hb : 0 < b) (hi : InK k a) (h : c (.int k (a / b))) : NStep P (.bin .quo t xo yo (.int k a) (.int k b)) c :=
  NStep.mk _ (fun w => by
    have hb' : b ≠ 0 := by omega
    have h1 : a / b ≤ a := Int.ediv_le_self _ ha
    have h2 : 0 ≤ a / b := Int.ediv_nonneg ha (by omega)
    have : InK k (a / b) := by cases k <;> simp only [InK] at hi ⊢ <;> omega
    simp [M.sem, eqGuard, binOp, Op.intDiv, hb', Int.tdiv_eq_ediv_of_nonneg ha, wrap_in this]) h

theorem conv_int {src dst : TypeId} {k k' : IntKind} {n : Int} {c : Value → Prop} (ht : P.underlying dst = some (.int k')) (hs : (P.underlying src).isSome) (hi : InK k' n) (h : c (.int k' n)) : NStep P (.conv src dst (.int k n)) c :=
  NStep.mk _ (fun w => by
    cases hu : P.underlying src with
    | none => simp [hu] at hs
    | some d => simp [M.sem, convert, run_underlying hu, run_underlying ht, Conv.intToInt, wrap_in hi]) h

theorem min_int {ts : Array TypeId} {ty : TypeId} {cs : Array Bool} {k : IntKind} {a b : Int} {K : Hp} {H : List HProp} {c : Value → Prop} (h : c (.int k (min a b))) : RStepS P (.builtin .min ts ty cs [.int k a, .int k b]) K H c :=
  RStepS.mk _ (fun Γ w s => by simp [M.sem, Go.builtin, Builtin.min_, Builtin.min2]; rw [Int.min_def]; split <;> split <;> first | rfl | omega) h
theorem min_intN {ts : Array TypeId} {ty : TypeId} {cs : Array Bool} {k : IntKind} {a b : Int} {c : Value → Prop} (h : c (.int k (min a b))) : NStep P (.builtin .min ts ty cs [.int k a, .int k b]) c :=
  NStep.mk _ (fun w => by simp [M.sem, Go.builtin, Builtin.min_, Builtin.min2]; rw [Int.min_def]; split <;> split <;> first | rfl | omega) h
theorem max_intN {ts : Array TypeId} {ty : TypeId} {cs : Array Bool} {k : IntKind} {a b : Int} {c : Value → Prop} (h : c (.int k (max a b))) : NStep P (.builtin .max ts ty cs [.int k a, .int k b]) c :=
  NStep.mk _ (fun w => by simp [M.sem, Go.builtin, Builtin.max_, Builtin.max2]; rw [Int.max_def]; split <;> split <;> first | rfl | omega) h
theorem max_int {ts : Array TypeId} {ty : TypeId} {cs : Array Bool} {k : IntKind} {a b : Int} {K : Hp} {H : List HProp} {c : Value → Prop} (h : c (.int k (max a b))) : RStepS P (.builtin .max ts ty cs [.int k a, .int k b]) K H c :=
  RStepS.mk _ (fun Γ w s => by simp [M.sem, Go.builtin, Builtin.max_, Builtin.max2]; rw [Int.max_def]; split <;> split <;> first | rfl | omega) h

/-! ### pointers, structs -/
def fieldOff (P : Program) (s : TypeId) (f : Nat) : Option Nat :=
  match P.underlying s with
  | some (.struct fs) => match fs[f]? with
    | some fd => match tySize P fd.type with
      | some (_ + 1) => some fd.offset
      | _ => none
    | none => none
  | _ => none
theorem run_fieldAt {s f o : Nat} {a : Addr} (h : fieldOff P s f = some o) (w : World) : (Instr.fieldAt s (.pointer (some a)) f).run P w = .ok (.pointer (some (a.add o))) w := by
  unfold fieldOff at h
  split at h
  · rename_i fs hu
    split at h
    · rename_i fd hf
      split at h
      · rename_i n hn
        cases h
        simp [Instr.fieldAt, run_underlying hu, hf, Instr.sureAddr, fieldPlace, run_sizeOf' hn]
      · cases h
    · cases h
  · cases h
theorem field_addr {s b off f o : Nat} {c : Value → Prop} (ho : fieldOff P s f = some o) (h : forceN (off + o) fun o' => c (.pointer (some ⟨b, o', none⟩))) : NStep P (.fieldAddr s (.pointer (some ⟨b, off, none⟩)) f) c :=
  NStep.mk (.pointer (some ⟨b, off + o, none⟩)) (fun w => by simp [M.sem, run_fieldAt ho, addr_add]) (by rw [forceN_eq] at h; exact h)
theorem nil_check {a : Addr} {c : Value → Prop} (h : c (.pointer (some a))) : NStep P (.nilCheck (.pointer (some a))) c := NStep.mk _ (fun w => by simp [M.sem, execOp]) h
theorem mk_iface {t : TypeId} {x : Value} {c : Value → Prop} (ht : match P.underlying t with | some (.interface _) => false | some _ => true | none => false) (h : c (.iface t x)) : NStep P (.mkIface t x) c :=
  NStep.mk _ (fun w => by
    cases hu : P.underlying t with
    | none => simp [hu] at ht
    | some d => cases d <;> simp_all [M.sem, Instr.makeInterface, run_underlying hu]) h
theorem field_one {t f : Nat} {cs : Array Value} {fd : Field} {fs : Array Field} {v : Value} {c : Value → Prop} (hu : P.underlying t = some (.struct fs)) (hf : fs[f]? = some fd) (hs : tyShape P fd.type = some none)
    (hv : cs.toList[fd.offset]? = some v) (h : c v) : NStep P (.field t (.agg cs) f) c :=
  NStep.mk _ (fun w => by
    have hv' : cs[fd.offset]? = some v := by simpa using hv
    simp [M.sem, Instr.field, run_underlying hu, hf, asAgg, part, tyShape_one hs, hv']) h

/-- The places of a struct's fields. -/
def places (P : Program) (t : TypeId) : List (Nat × Nat) :=
  match P.underlying t with
  | some (.struct fs) => fs.toList.map fun f => (f.offset, (tySize P f.type).getD 0)
  | _ => []
def nthK {α : Type} : List α → Nat → (α → Prop) → Prop
  | [], _, _ => False
  | a :: _, 0, k => k a
  | _ :: l, n + 1, k => nthK l n k
theorem nthK_spec {α : Type} : ∀ {l : List α} {n : Nat} {k : α → Prop}, nthK l n k → ∃ a, l[n]? = some a ∧ k a
  | [], _, _, h => h.elim
  | a :: _, 0, _, h => ⟨a, rfl, h⟩
  | _ :: l, n + 1, k, h => by simpa using nthK_spec (l := l) h
def buildK (pl : List (Nat × Nat)) : List (Nat × Value) → List Value → (List Value → Prop) → Prop
  | [], acc, k => force acc k
  | (i, v) :: rest, acc, k => nthK pl i fun p => cellsL v fun vs => condP (decide (vs.length = p.2) && decide (p.1 + vs.length ≤ acc.length)) (force (splice p.1 vs acc) fun acc => buildK pl rest acc k) False

theorem foldl_splice : ∀ (vs : List Value) (off i : Nat) (acc : Array Value), off + i + vs.length ≤ acc.size →
    ((vs.zipIdx i).foldl (fun cs (c, j) => cs.setIfInBounds (off + j) c) acc).toList = splice (off + i) vs acc.toList
  | [], off, i, acc, _ => by
    have : ∀ (n : Nat) (l : List Value), splice n [] l = l := by
      intro n; induction n with
      | zero => intro l; cases l <;> simp [splice]
      | succ n ih => intro l; cases l <;> simp [splice, ih]
    simp [this]
  | v :: vs, off, i, acc, h => by
    simp only [List.length_cons] at h
    rw [List.zipIdx_cons, List.foldl_cons, foldl_splice vs off (i + 1) _ (by simp; omega)]
    have : ∀ (n : Nat) (l : List Value), n < l.length → splice (n + 1) vs (l.set n v) = splice n (v :: vs) l := by
      intro n; induction n with
      | zero => intro l hn; cases l with
        | nil => simp at hn
        | cons x l => simp [splice]
      | succ n ih => intro l hn; cases l with
        | nil => simp at hn
        | cons x l => simp only [List.set_cons_succ, splice]; rw [ih l (by simpa using hn)]
    rw [← this (off + i) acc.toList (by simp; omega)]
    simp [Nat.add_assoc]
theorem fill_spec {place : Nat → Option (Nat × Nat)} {pl : List (Nat × Nat)} (hp : ∀ i p, pl[i]? = some p → place i = some p) : ∀ {parts : List (Nat × Value)} {acc : Array Value} {k : List Value → Prop}, buildK pl parts acc.toList k →
    ∃ cs : Array Value, Instr.fill place acc parts = some cs ∧ k cs.toList
  | [], acc, k, h => ⟨acc, rfl, by simpa [buildK, force_eq] using h⟩
  | (i, v) :: rest, acc, k, h => by
    simp only [buildK, cellsL_eq, force_eq] at h
    obtain ⟨p, hpi, h⟩ := nthK_spec h
    rcases condP_true h with ⟨hb, h⟩ | ⟨_, h⟩
    · simp only [Bool.and_eq_true, decide_eq_true_eq] at hb
      have e : ((v.cells.zipIdx.foldl (fun cs (c, j) => cs.setIfInBounds (p.1 + j) c) acc)).toList = splice p.1 v.cells.toList acc.toList := by
        have := foldl_splice v.cells.toList p.1 0 acc (by have := hb.2; simp at this ⊢; omega)
        rw [Nat.add_zero] at this
        rw [← this, ← Array.foldl_toList]
        simp
      rw [← e] at h
      obtain ⟨cs, h1, h2⟩ := fill_spec hp h
      refine ⟨cs, ?_, h2⟩
      have hs : ¬ (v.cells.size ≠ p.2 ∨ p.1 + v.cells.size > acc.size) := by
        have := hb.1; have := hb.2; simp at *; omega
      have hs1 : v.cells.size = p.2 := by have := hb.1; simpa using this
      have hs2 : p.1 + v.cells.size ≤ acc.size := by have := hb.2; simpa using this
      simp only [Instr.fill, hp i p hpi]
      simp only [hs1, ne_eq, not_true_eq_false, decide_false, Bool.false_or]
      rw [if_neg (by simp; omega)]
      exact h1
    · exact h.elim

theorem build_struct {t : TypeId} {z : Value} {parts : List (Nat × Value)} {c : Value → Prop} (hz : tyZeroV P t = some z) (hst : match P.underlying t with | some (.struct fs) => fs.toList.all fun f => (tySize P f.type).isSome | _ => false)
    (h : buildK (places P t) parts z.cells.toList fun cs => c (.agg cs.toArray)) : NStep P (.build t parts) c := by
  cases hu : P.underlying t with
  | none => simp [hu] at hst
  | some d =>
    cases d with
    | struct fs =>
      simp only [hu] at hst
      have hpl : ∀ w, (fs.mapM (fun f => do pure (f.offset, ← sizeOf f.type)) : Sem (Array (Nat × Nat))).run P w = .ok (places P t).toArray w := by
        intro w
        simp only [places, hu]
        obtain ⟨l⟩ := fs
        rw [Array.mapM_eq_foldlM]
        have key : ∀ (l : List Field) (acc : Array (Nat × Nat)), (l.all fun f => (tySize P f.type).isSome) = true →
            (l.foldlM (fun bs f => do let b ← (do pure (f.offset, ← sizeOf f.type)); pure (bs.push b)) acc : Sem (Array (Nat × Nat))).run P w = .ok (acc ++ (l.map fun f => (f.offset, (tySize P f.type).getD 0)).toArray) w := by
          intro l
          induction l with
          | nil => intro acc _; simp
          | cons f l ih =>
            intro acc hl
            simp only [List.all_cons, Bool.and_eq_true] at hl
            obtain ⟨n, hn⟩ := Option.isSome_iff_exists.1 hl.1
            simp only [List.foldlM_cons, Sem.run_bind, run_sizeOf' hn, Result.andThen_ok, Sem.run_pure]
            have := ih (acc.push (f.offset, n)) hl.2
            rw [this]
            simp [hn]
        have := key l #[] hst
        simpa using this
      obtain ⟨cs, h1, h2⟩ := fill_spec (place := fun i => (places P t)[i]?) (fun i p hp => hp) h
      refine NStep.mk (.agg cs) (fun w => ?_) (by simpa using h2)
      simp only [M.sem, Instr.build, Sem.run_bind, run_zero' hz, Result.andThen_ok, run_underlying hu, hpl]
      simp [h1]
    | _ => simp [hu] at hst
end
end Go.SL
