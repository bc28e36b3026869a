/- The verification condition of a function's code: what is left to show once all that looks at no memory has been carried out. -/
import Derived.Test.YtpmdpondlmkojaaSL1
import Derived.Tactics
import Derived.Orders
set_option linter.unusedVariables false
namespace Go.SL
open Go

/-! ### slots -/
def look : List Value → Nat → Value
  | [], _ => undef
  | v :: _, 0 => v
  | _ :: vs, n + 1 => look vs n
def upd : List Value → Nat → Value → List Value
  | [], _, _ => []
  | _ :: vs, 0, v => v :: vs
  | x :: vs, n + 1, v => x :: upd vs n v
def updO (env : List Value) (dst : Option Nat) (v : Value) : List Value :=
  match dst with
  | some d => upd env d v
  | none => env
def lookK : List Value → Nat → (Value → Prop) → Prop
  | [], _, k => k undef
  | v :: _, 0, k => k v
  | _ :: vs, n + 1, k => lookK vs n k
def extK : List Value → Nat → (Value → Prop) → Prop
  | [], _, _ => False
  | v :: _, 0, k => k v
  | _ :: vs, n + 1, k => extK vs n k
theorem extK_spec : ∀ {l : List Value} {i : Nat} {k : Value → Prop}, extK l i k → ∃ v, l[i]? = some v ∧ k v
  | [], _, _, h => h.elim
  | v :: _, 0, _, h => ⟨v, rfl, h⟩
  | _ :: vs, n + 1, k, h => by simpa using extK_spec (l := vs) h
def ev (env : List Value) : Operand → Value
  | .tmp t => look env t
  | .const v => v
  | .global g => .pointer (some ⟨g, 0, none⟩)
  | .func f => .func (.func f) #[] #[]
def evK (env : List Value) (x : Operand) (k : Value → Prop) : Prop :=
  match x with
  | .tmp t => lookK env t k
  | .const v => k v
  | .global g => k (.pointer (some ⟨g, 0, none⟩))
  | .func f => k (.func (.func f) #[] #[])
def evKs (env : List Value) : List Operand → (List Value → Prop) → Prop
  | [], k => k []
  | x :: xs, k => evK env x fun v => evKs env xs fun vs => k (v :: vs)
def evKo (env : List Value) (x : Option Operand) (k : Option Value → Prop) : Prop :=
  match x with
  | none => k none
  | some x => evK env x fun v => k (some v)
def evKp (env : List Value) : List (Nat × Operand) → (List (Nat × Value) → Prop) → Prop
  | [], k => k []
  | (i, x) :: xs, k => evK env x fun v => evKp env xs fun vs => k ((i, v) :: vs)
def force {α : Type} : List α → (List α → Prop) → Prop
  | [], k => k []
  | a :: l, k => force l fun l' => k (a :: l')

theorem force_eq {α : Type} : ∀ (l : List α) (k : List α → Prop), force l k = k l
  | [], _ => rfl
  | a :: l, k => force_eq l _
theorem lookK_eq : ∀ (env : List Value) (t : Nat) (k : Value → Prop), lookK env t k = k (look env t)
  | [], _, _ => rfl
  | _ :: _, 0, _ => rfl
  | _ :: vs, n + 1, k => lookK_eq vs n k
theorem evK_eq (env : List Value) (x : Operand) (k : Value → Prop) : evK env x k = k (ev env x) := by
  cases x <;> simp [evK, ev, lookK_eq]
theorem evKs_eq (env : List Value) : ∀ (xs : List Operand) (k : List Value → Prop), evKs env xs k = k (xs.map (ev env))
  | [], _ => rfl
  | x :: xs, k => by simp [evKs, evK_eq, evKs_eq env xs]
theorem evKo_eq (env : List Value) (x : Option Operand) (k : Option Value → Prop) : evKo env x k = k (x.map (ev env)) := by
  cases x <;> simp [evKo, evK_eq]
theorem evKp_eq (env : List Value) : ∀ (xs : List (Nat × Operand)) (k : List (Nat × Value) → Prop), evKp env xs k = k (xs.map fun p => (p.1, ev env p.2))
  | [], _ => rfl
  | (i, x) :: xs, k => by simp [evKp, evK_eq, evKp_eq env xs]

theorem look_getD : ∀ (env : List Value) (t : Nat), look env t = env.getD t undef
  | [], _ => by simp [look]
  | _ :: _, 0 => by simp [look]
  | _ :: vs, n + 1 => by simp only [look]; rw [look_getD vs n]; simp
theorem upd_set : ∀ (env : List Value) (t : Nat) (v : Value), upd env t v = env.set t v
  | [], _, _ => rfl
  | _ :: _, 0, _ => rfl
  | _ :: vs, n + 1, v => by simp [upd, upd_set vs n v]

/-- The frame of these slots. -/
def act (env : List Value) : Act := ⟨env.toArray, []⟩
theorem act_eval (env : List Value) : (act env).eval = ev env := by
  funext x
  cases x <;> simp [Act.eval, act, ev, look_getD]
theorem act_put (env : List Value) (d : Option Nat) (v : Value) : (act env).put d v = act (updO env d v) := by
  cases d <;> simp [Act.put, act, updO, upd_set]

/-! ### the operations, their operands evaluated -/
inductive M where
  | bin (op : BinOp) (t : TypeId) (xo yo : Operand) (x y : Value)
  | un (op : UnOp) (x : Value)
  | conv (src dst : TypeId) (x : Value)
  | nilCheck (x : Value)
  | fieldAddr (s : TypeId) (x : Value) (f : Nat)
  | field (t : TypeId) (x : Value) (f : Nat)
  | indexAddr (t : TypeId) (x i : Value)
  | index (t : TypeId) (x i : Value)
  | slice (t : TypeId) (x : Value) (lo hi mx : Option Value)
  | build (t : TypeId) (parts : List (Nat × Value))
  | mkIface (t : TypeId) (x : Value)
  | assert (x : Value) (xt t : TypeId) (ok : Bool)
  | extract (x : Value) (i : Nat)
  | mkFunc (fn : Fn) (first captured : List Value)
  | load (t : TypeId) (a : Value)
  | store (t : TypeId) (a v : Value)
  | alloc (t : TypeId)
  | box (t : TypeId) (v : Value)
  | buildSlice (t : TypeId) (len : Nat) (parts : List (Nat × Value))
  | makeMap (t : TypeId) (r : Option Value)
  | makeSlice (t : TypeId) (l c : Value)
  | lookup (t : TypeId) (m k : Value) (ok : Bool)
  | mapUpdate (t : TypeId) (m k v : Value)
  | mapEntry (t : TypeId) (m k : Value)
  | entryStore (t : TypeId) (m s v : Value)
  | range (t : TypeId) (x : Value)
  | next (it : Value) (isString : Bool) (t : TypeId)
  | entry (it : Value)
  | builtin (b : Builtin) (argTypes : Array TypeId) (type : TypeId) (consts : Array Bool) (args : List Value)

def M.sem (m : M) : Sem Next :=
  let v (s : Sem Value) : Sem Next := do pure (.value (← s))
  let u (s : Sem Unit) : Sem Next := do s; pure .skip
  match m with
  | .bin op t xo yo x y => v (do eqGuard op t xo yo x y; binOp op t x y)
  | .un op x => v (Op.unary op x)
  | .conv src dst x => v (convert src dst x)
  | .nilCheck x => execOp (fun _ => x) ⟨none, .nilCheck (.tmp 0), 0, "", #[], none⟩
  | .fieldAddr s x f => v (Instr.fieldAt s x f)
  | .field t x f => v (Instr.field t x f)
  | .indexAddr t x i => v (Instr.indexAt t x i)
  | .index t x i => v (Instr.index t x i)
  | .slice t x lo hi mx => v (Instr.sliceAt t x lo hi mx)
  | .build t parts => v (Instr.build t parts.toArray)
  | .mkIface t x => v (Instr.makeInterface t x)
  | .assert x xt t ok => v (Instr.typeAssert x xt t ok)
  | .extract x i => v (Instr.extract x i)
  | .mkFunc fn first captured => v (Instr.makeFunc fn first.toArray captured.toArray)
  | .load t a => v (Instr.loadAt t a)
  | .store t a x => u (Instr.storeAt t a x)
  | .alloc t => v (Instr.alloc t true (.tuple #[]))
  | .box t x => v (Instr.box t x)
  | .buildSlice t len parts => v (Instr.buildSlice t len parts.toArray)
  | .makeMap t r => v (Instr.makeMap t r)
  | .makeSlice t l c => v (Instr.makeSlice t l c)
  | .lookup t m k ok => v (Instr.lookup t m k ok)
  | .mapUpdate t m k x => u (Instr.mapUpdate t m k x)
  | .mapEntry t m k => v (Instr.mapEntry t m k)
  | .entryStore t m s x => u (Instr.entryStore t m s x)
  | .range t x => v (Instr.range t x)
  | .next it isString t => v (Instr.next it isString t)
  | .entry it => v (Instr.entry it)
  | .builtin b ts t cs args => Go.builtin b ts t cs args.toArray

/-! ### the steps at which the reckoning stands still -/
/-- How a region that draws its order is taken: 'qs': the functions whose calls are quiet; 'lr': loads are taken for reads of what may be written (else of memory that nothing in the region writes). -/
structure Dr where
  qs : List FuncId
  lr : Bool
/-- What holds all through such a region: the knowledge 'K', the blocks 'priv'. -/
structure DrI extends Dr where
  K : Hp
  priv : List (Nat × Obj)
def DrI.I (d : DrI) (w : World) : Prop := (∀ i o, d.K i = some o → w.heap[i]? = some o) ∧ ∀ p ∈ d.priv, w.heap[p.1]? = some p.2
def DrI.Keep (d : DrI) (K : Hp) (H : List HProp) : Prop := d.K.Le K ∧ ConvH H (d.priv.map fun p => Blk p.1 p.2)
theorem DrI.Keep.inv {d : DrI} {K : Hp} {H : List HProp} (h : d.Keep K H) {Γ w : World} (s : Sat Γ K H w) : d.I w :=
  ⟨fun i o hi => s.know i o (h.1 i o hi), Sat.all_blk (s.conv h.2)⟩

abbrev VP := Value → Hp → List HProp → Prop
abbrev KP := List Value → Hp → List HProp → Prop

/-- An operation that looks at no memory. -/
structure NStep (P : Program) (m : M) (c : Value → Prop) : Prop where ctor ::
  out : ∃ v, (∀ w, m.sem.run P w = .ok (.value v) w) ∧ c v
/-- An operation that reads memory: one value in all worlds. -/
structure RStepS (P : Program) (m : M) (K : Hp) (H : List HProp) (c : Value → Prop) : Prop where ctor ::
  out : ∃ v, (∀ Γ w, Sat Γ K H w → m.sem.run P w = .ok (.value v) w) ∧ c v
structure RStep (P : Program) (m : M) (K : Hp) (H : List HProp) (c : Value → Prop) : Prop where ctor ::
  out : ∀ Γ w, Sat Γ K H w → ∃ v, m.sem.run P w = .ok (.value v) w ∧ c v
/-- A load from memory that nothing in the region writes. -/
structure LStep (P : Program) (m : M) (d : DrI) (c : Value → Prop) : Prop where ctor ::
  out : ∃ v, (∀ w, d.I w → m.sem.run P w = .ok (.value v) w) ∧ c v
/-- A call that is quiet. -/
structure QStep (P : Program) (f : FuncId) (args : List Value) (K : Hp) (H : List HProp) (c : Value → Prop) : Prop where ctor ::
  out : (∀ a w, (callFunc f a).run P w = .ok (.enter f a) w) ∧
  ∃ v, (∀ Γ w, Sat Γ K H w → Calls P f args.toArray w fun e w' => e = .returned v ∧ Sat Γ K H w') ∧ c v
/-- An operation that writes or makes memory. -/
structure WStep (P : Program) (m : M) (K : Hp) (H : List HProp) (c : VP) : Prop where ctor ::
  out : ∀ Γ w, Sat Γ K H w → ∃ r w' v K' H', m.sem.run P w = .ok r w' ∧ (r = .value v ∨ (r = .skip ∧ v = undef)) ∧ Sat Γ K' H' w' ∧ c v K' H'
/-- A call of function 'f'. -/
structure CallStep (P : Program) (f : FuncId) (args : List Value) (K : Hp) (H : List HProp) (c : VP) : Prop where ctor ::
  out : (∀ a w, (callFunc f a).run P w = .ok (.enter f a) w) ∧
  ∀ Γ w, Sat Γ K H w → Calls P f args.toArray w fun e w' => ∃ v K' H', e = .returned v ∧ Sat Γ K' H' w' ∧ c v K' H'
structure IntStep (k : IntKind) (e : Int) (c : Value → Prop) : Prop where ctor ::
  out : c (.int k (k.wrap e))

structure condP (b : Bool) (A B : Prop) : Prop where ctor ::
  out : (b = true ∧ A) ∨ (b = false ∧ B)
theorem condP_true {A B : Prop} {b : Bool} (h : condP b A B) : (b = true ∧ A) ∨ (b = false ∧ B) := by
  exact h.out
theorem cond_t {b : Bool} {A B : Prop} (h : b = true) (a : A) : condP b A B := ⟨.inl ⟨h, a⟩⟩
theorem cond_f {b : Bool} {A B : Prop} (h : b = false) (a : B) : condP b A B := ⟨.inr ⟨h, a⟩⟩
theorem cond_T {A B : Prop} (a : A) : condP true A B := cond_t rfl a
theorem cond_F {A B : Prop} (a : B) : condP false A B := cond_f rfl a
theorem cond_s {b : Bool} {A B : Prop} (h : b = true → A) (k : b = false → B) : condP b A B := by
  cases b
  · exact cond_F (k rfl)
  · exact cond_T (h rfl)

/-- A binary operation: on integers at once. -/
def binStep (P : Program) (op : BinOp) (t : TypeId) (xo yo : Operand) (x y : Value) (c : Value → Prop) : Prop :=
  match op with
  | .add => match x, y with
    | .int k a, .int k' b => if k = k' then IntStep k (a + b) c else False
    | x, y => NStep P (.bin .add t xo yo x y) c
  | .sub => match x, y with
    | .int k a, .int k' b => if k = k' then IntStep k (a - b) c else False
    | x, y => NStep P (.bin .sub t xo yo x y) c
  | .mul => match x, y with
    | .int k a, .int k' b => if k = k' then IntStep k (a * b) c else False
    | x, y => NStep P (.bin .mul t xo yo x y) c
  | .lss => match x, y with
    | .int k a, .int k' b => if k = k' then c (.bool (decide (a < b))) else False
    | x, y => NStep P (.bin .lss t xo yo x y) c
  | .leq => match x, y with
    | .int k a, .int k' b => if k = k' then c (.bool (decide (a ≤ b))) else False
    | x, y => NStep P (.bin .leq t xo yo x y) c
  | .gtr => match x, y with
    | .int k a, .int k' b => if k = k' then c (.bool (decide (a > b))) else False
    | x, y => NStep P (.bin .gtr t xo yo x y) c
  | .geq => match x, y with
    | .int k a, .int k' b => if k = k' then c (.bool (decide (a ≥ b))) else False
    | x, y => NStep P (.bin .geq t xo yo x y) c
  | op => NStep P (.bin op t xo yo x y) c

def dstOf : List Oper → Nat → Option Nat
  | [], _ => none
  | o :: _, 0 => o.dst
  | _ :: l, n + 1 => dstOf l n

/-- A length that looks at no memory. -/
def lenN (P : Program) (ts : Array TypeId) : Bool := match ts.toList with
  | [t] => match P.underlying t with
    | some (.slice _) => true
    | some .string => true
    | _ => false
  | _ => false
/-- One operation; 'dr': the region draws its order. -/
def opStep (P : Program) (dr : Option DrI) (o : Oper) (env : List Value) (K : Hp) (H : List HProp) (c : VP) : Prop :=
  let n (m : M) : Prop := NStep P m fun v => c v K H
  let r (m : M) : Prop := match dr with
    | some _ => RStepS P m K H fun v => c v K H
    | none => RStep P m K H fun v => c v K H
  let nr (m : M) : Prop := match dr with
    | some _ => NStep P m fun v => c v K H
    | none => RStep P m K H fun v => c v K H
  let w (m : M) : Prop := match dr with
    | some d => WStep P m K H fun v K H => d.Keep K H ∧ c v K H
    | none => WStep P m K H c
  match o.op with
  | .move x | .assign x => evK env x fun v => c v K H
  | .pick b x y => evK env b fun vb => match vb with
    | .bool b => condP b (evK env x fun v => c v K H) (evK env y fun v => c v K H)
    | _ => False
  | .binOp op t x y _ => evK env x fun vx => evK env y fun vy => binStep P op t x y vx vy fun v => c v K H
  | .unOp op _ x => evK env x fun vx => n (.un op vx)
  | .convert src dst x => evK env x fun vx => match P.underlying src, P.underlying dst with
    | some (.int _), some (.int _) => n (.conv src dst vx)
    | some (.slice _), some .string => r (.conv src dst vx)
    | some .string, some .string => n (.conv src dst vx)
    | _, _ => w (.conv src dst vx)
  | .nilCheck x => evK env x fun vx => n (.nilCheck vx)
  | .fieldAddr s x f => evK env x fun vx => n (.fieldAddr s vx f)
  | .field t x f => evK env x fun vx => n (.field t vx f)
  | .indexAddr t x i => evK env x fun vx => evK env i fun vi => nr (.indexAddr t vx vi)
  | .index t x i => evK env x fun vx => evK env i fun vi => n (.index t vx vi)
  | .slice t x lo hi mx => evK env x fun vx => evKo env lo fun vl => evKo env hi fun vh => evKo env mx fun vm => nr (.slice t vx vl vh vm)
  | .build t parts => evKp env parts.toList fun ps => n (.build t ps)
  | .makeInterface t x => evK env x fun vx => n (.mkIface t vx)
  | .typeAssert x xt t ok => evK env x fun vx => n (.assert vx xt t ok)
  | .extract x i => evK env x fun vx => match vx with
    | .tuple vs => extK vs.toList i fun v => c v K H
    | _ => False
  | .makeFunc fn first captured => evKs env first.toList fun vf => evKs env captured.toList fun vc => n (.mkFunc fn vf vc)
  | .load t a => evK env a fun va => match dr with
    | some d => match d.lr with
      | true => RStepS P (.load t va) K H fun v => c v K H
      | false => LStep P (.load t va) d fun v => c v K H
    | none => RStep P (.load t va) K H fun v => c v K H
  | .store t a x => evK env a fun va => evK env x fun vx => w (.store t va vx)
  | .alloc t => w (.alloc t)
  | .box t x => evK env x fun vx => w (.box t vx)
  | .buildSlice t len parts => evKp env parts.toList fun ps => w (.buildSlice t len ps)
  | .makeMap t x => evKo env x fun vx => w (.makeMap t vx)
  | .makeSlice t l x => evK env l fun vl => evK env x fun vx => w (.makeSlice t vl vx)
  | .lookup t m k ok => evK env m fun vm => evK env k fun vk => r (.lookup t vm vk ok)
  | .mapUpdate t m k x | .insert t m k x => evK env m fun vm => evK env k fun vk => evK env x fun vx => w (.mapUpdate t vm vk vx)
  | .mapEntry t m k => evK env m fun vm => evK env k fun vk => w (.mapEntry t vm vk)
  | .entryStore t m s x => evK env m fun vm => evK env s fun vs => evK env x fun vx => w (.entryStore t vm vs vx)
  | .range t x => evK env x fun vx => w (.range t vx)
  | .next it s => evK env it fun vi => w (.next vi s o.type)
  | .entry it => evK env it fun vi => r (.entry vi)
  | .call { callee := .value f, args, .. } => match f with
    | .func g => evKs env args.toList fun vs => match dr with
      | some d => match d.qs.contains g with
        | true => QStep P g vs K H fun v => c v K H
        | false => CallStep P g vs K H fun v K H => d.Keep K H ∧ c v K H
      | none => CallStep P g vs K H c
    | f => evK env f fun vf => evKs env args.toList fun vs => match vf with
      | .func (.func g) first captured => match dr with
        | some d => CallStep P g (first.toList ++ vs ++ captured.toList) K H fun v K H => d.Keep K H ∧ c v K H
        | none => CallStep P g (first.toList ++ vs ++ captured.toList) K H c
      | _ => False
  | .call { callee := .builtin b, args, argTypes } => evKs env args.toList fun vs =>
    match b with
    | .len => match dr with
      | some _ => match lenN P argTypes with
        | true => n (.builtin b argTypes o.type (args.map fun | .const _ => true | _ => false) vs)
        | false => r (.builtin b argTypes o.type (args.map fun | .const _ => true | _ => false) vs)
      | none => r (.builtin b argTypes o.type (args.map fun | .const _ => true | _ => false) vs)
    | .min | .max => match dr with
      | some _ => n (.builtin b argTypes o.type (args.map fun | .const _ => true | _ => false) vs)
      | none => r (.builtin b argTypes o.type (args.map fun | .const _ => true | _ => false) vs)
    | .cap => r (.builtin b argTypes o.type (args.map fun | .const _ => true | _ => false) vs)
    | b => w (.builtin b argTypes o.type (args.map fun | .const _ => true | _ => false) vs)
  | _ => False

def vcOpsB (P : Program) (dr : Option DrI) (ops : List Oper) (o : Oper) (ih : KP) : KP := fun env K H =>
  let run : Prop := opStep P dr o env K H fun v K H => force (updO env o.dst v) fun env => force H fun H => ih env K H
  match o.guard with
  | none => run
  | some (j, want) =>
    match dstOf ops j with
    | some d => lookK env d fun vb => match vb with
      | .bool b => match want with
        | true => condP b run (ih (updO env o.dst undef) K H)
        | false => condP b (ih (updO env o.dst undef) K H) run
      | .tuple _ => force (updO env o.dst undef) fun env => ih env K H
      | _ => False
    | none => False
/-- By the recursor itself: what is left of the list stands as the kernel leaves it. -/
noncomputable def vcOps (P : Program) (dr : Option DrI) (ops : List Oper) (Q : KP) (l : List Oper) : KP := List.rec (motive := fun _ => KP) Q (fun o _ ih => vcOpsB P dr ops o ih) l
theorem vcOps_nil {P : Program} {dr : Option DrI} {ops : List Oper} {Q : KP} : vcOps P dr ops Q [] = Q := rfl
theorem vcOps_cons {P : Program} {dr : Option DrI} {ops : List Oper} {Q : KP} {o : Oper} {l : List Oper} : vcOps P dr ops Q (o :: l) = vcOpsB P dr ops o (vcOps P dr ops Q l) := rfl

/-! ### one operation is sound -/
def Next' (Γ : World) (env : List Value) (o : Oper) (c : VP) (a : Act) (w : World) : Prop :=
  ∃ v K H, a = act (updO env o.dst v) ∧ Sat Γ K H w ∧ c v K H

theorem NStep.elim {P : Program} {m : M} {c : Value → Prop} (h : NStep P m c) : ∃ v, (∀ w, m.sem.run P w = .ok (.value v) w) ∧ c v := by
  exact h.out
theorem RStepS.elim {P : Program} {m : M} {K : Hp} {H : List HProp} {c : Value → Prop} (h : RStepS P m K H c) :
    ∃ v, (∀ Γ w, Sat Γ K H w → m.sem.run P w = .ok (.value v) w) ∧ c v := by
  exact h.out
theorem RStep.elim {P : Program} {m : M} {K : Hp} {H : List HProp} {c : Value → Prop} (h : RStep P m K H c) :
    ∀ Γ w, Sat Γ K H w → ∃ v, m.sem.run P w = .ok (.value v) w ∧ c v := by
  exact h.out
theorem WStep.elim {P : Program} {m : M} {K : Hp} {H : List HProp} {c : VP} (h : WStep P m K H c) :
    ∀ Γ w, Sat Γ K H w → ∃ r w' v K' H', m.sem.run P w = .ok r w' ∧ (r = .value v ∨ (r = .skip ∧ v = undef)) ∧ Sat Γ K' H' w' ∧ c v K' H' := by
  exact h.out
theorem LStep.elim {P : Program} {m : M} {d : DrI} {c : Value → Prop} (h : LStep P m d c) : ∃ v, (∀ w, d.I w → m.sem.run P w = .ok (.value v) w) ∧ c v := by
  exact h.out
theorem QStep.elim {P : Program} {f : FuncId} {args : List Value} {K : Hp} {H : List HProp} {c : Value → Prop} (h : QStep P f args K H c) :
    (∀ a w, (callFunc f a).run P w = .ok (.enter f a) w) ∧ ∃ v, (∀ Γ w, Sat Γ K H w → Calls P f args.toArray w fun e w' => e = .returned v ∧ Sat Γ K H w') ∧ c v := by
  exact h.out
theorem CallStep.elim {P : Program} {f : FuncId} {args : List Value} {K : Hp} {H : List HProp} {c : VP} (h : CallStep P f args K H c) :
    (∀ a w, (callFunc f a).run P w = .ok (.enter f a) w) ∧
    ∀ Γ w, Sat Γ K H w → Calls P f args.toArray w fun e w' => ∃ v K' H', e = .returned v ∧ Sat Γ K' H' w' ∧ c v K' H' := by
  exact h.out
theorem RStep.of {P : Program} {m : M} {K : Hp} {H : List HProp} {c : Value → Prop} (h : RStepS P m K H c) : RStep P m K H c := by
  obtain ⟨v, h1, h2⟩ := h.elim
  exact ⟨fun Γ w s => ⟨v, h1 Γ w s, h2⟩⟩
theorem IntStep.elim {k : IntKind} {e : Int} {c : Value → Prop} (h : IntStep k e c) : c (.int k (k.wrap e)) := by
  exact h.out

section
variable {P : Program} {o : Oper} {env : List Value} {K : Hp} {H : List HProp} {c : VP} {Γ : World} {w : World}

theorem wp_value {v : Value} {w' : World} (hr : (execOp (ev env) o).run P w = .ok (.value v) w') {next : Act → World → Prop} (h : next (act (updO env o.dst v)) w') :
    o.wp P (act env) w next (fun _ _ _ => False) := by
  unfold Oper.wp
  rw [act_eval, hr, Oper.upon_value, act_put]
  exact h

theorem sound_n {m : M} (he : execOp (ev env) o = m.sem) (h : NStep P m fun v => c v K H) (s : Sat Γ K H w) :
    o.wp P (act env) w (Next' Γ env o c) (fun _ _ _ => False) := by
  obtain ⟨v, h1, h2⟩ := h.elim
  exact wp_value (by rw [he]; exact h1 w) ⟨v, K, H, rfl, s, h2⟩
theorem sound_r {m : M} (he : execOp (ev env) o = m.sem) (h : RStep P m K H fun v => c v K H) (s : Sat Γ K H w) :
    o.wp P (act env) w (Next' Γ env o c) (fun _ _ _ => False) := by
  obtain ⟨v, h1, h2⟩ := h.elim Γ w s
  exact wp_value (by rw [he]; exact h1) ⟨v, K, H, rfl, s, h2⟩
theorem sound_w {m : M} (he : execOp (ev env) o = m.sem) (h : WStep P m K H c) (s : Sat Γ K H w) :
    o.wp P (act env) w (Next' Γ env o c) (fun _ _ _ => False) := by
  obtain ⟨r, w', v, K', H', h1, h2, h3, h4⟩ := h.elim Γ w s
  unfold Oper.wp
  rw [act_eval, he, h1]
  rcases h2 with rfl | ⟨rfl, rfl⟩
  · rw [Oper.upon_value, act_put]; exact ⟨v, K', H', rfl, h3, h4⟩
  · rw [Oper.upon_skip, act_put]; exact ⟨undef, K', H', rfl, h3, h4⟩

theorem sound_call {g : FuncId} {args : List Value} (he : ∀ w, (execOp (ev env) o).run P w = (callFunc g args.toArray).run P w)
    (h : CallStep P g args K H c) (s : Sat Γ K H w) : o.wp P (act env) w (Next' Γ env o c) (fun _ _ _ => False) := by
  obtain ⟨h1, h2⟩ := h.elim
  unfold Oper.wp
  rw [act_eval, he, h1, Oper.upon_enter]
  exact (h2 Γ w s).mono fun e w' ⟨v, K', H', e1, e2, e3⟩ => by subst e1; show Next' Γ env o c _ _; rw [act_put]; exact ⟨v, K', H', rfl, e2, e3⟩

theorem run_int_bin (op : BinOp) (t : TypeId) (xo yo : Operand) (k : IntKind) (a b : Int) (v : Value) (w : World)
    (hop : op ≠ .eql ∧ op ≠ .neq) (hb : (binOp op t (.int k a) (.int k b)).run P w = .ok v w) :
    (M.sem (.bin op t xo yo (.int k a) (.int k b))).run P w = .ok (.value v) w := by
  have hg : eqGuard op t xo yo (.int k a) (.int k b) = pure () := by
    unfold eqGuard
    cases op <;> simp_all
  simp [M.sem, hg, hb]

theorem bin_sound {op : BinOp} {t : TypeId} {xo yo : Operand} {x y : Value} {c : Value → Prop} (h : binStep P op t xo yo x y c) :
    ∃ v, (∀ w, (M.sem (.bin op t xo yo x y)).run P w = .ok (.value v) w) ∧ c v := by
  unfold binStep at h
  split at h
  all_goals first
    | exact h.elim
    | (split at h
       · split at h
         · rename_i e; subst e
           first
           | exact ⟨_, fun w => run_int_bin _ t xo yo _ _ _ _ w (by simp) (by simp [binOp, Op.intArith]), IntStep.elim h⟩
           | exact ⟨_, fun w => run_int_bin _ t xo yo _ _ _ _ w (by simp) (by simp [binOp, Op.intCmp]), h⟩
         · exact h.elim
       · exact h.elim)

theorem amap {α β : Type} (f : α → β) (a : Array α) : a.map f = (a.toList.map f).toArray := by cases a; simp

theorem run_call_value {f : Operand} {args : Array Operand} {argTypes : Array TypeId} {dst : Option Tmp} {type : TypeId} {pos : String} {after : Array Edge} {guard : Option (Nat × Bool)}
    {g : FuncId} {first captured : Array Value} (hf : ev env f = .func (.func g) first captured) (w : World) :
    (execOp (ev env) ⟨dst, .call { callee := .value f, args, argTypes }, type, pos, after, guard⟩).run P w =
      (callFunc g (first.toList ++ args.toList.map (ev env) ++ captured.toList).toArray).run P w := by
  simp only [execOp, resolve, hf, Deferred.ofValue, Sem.run_bind, Sem.run_pure, Result.andThen_ok, invoke]
  congr 2
  rw [amap]
  cases first; cases captured
  simp

/-- A call of a function: which one, with which arguments. -/
theorem call_value {f : Operand} {args : Array Operand} {argTypes : Array TypeId} {dst : Option Tmp} {type : TypeId} {pos : String} {after : Array Edge} {guard : Option (Nat × Bool)} {X : Prop}
    (h : opStep P none ⟨dst, .call { callee := .value f, args, argTypes }, type, pos, after, guard⟩ env K H c)
    (k : ∀ g vs, (∀ w, (execOp (ev env) ⟨dst, .call { callee := .value f, args, argTypes }, type, pos, after, guard⟩).run P w = (callFunc g vs.toArray).run P w) → CallStep P g vs K H c → X) : X := by
  simp only [opStep, evK_eq, evKs_eq] at h
  split at h
  · rename_i g
    refine k g _ (fun w => ?_) h
    rw [run_call_value (f := .func g) (g := g) (first := #[]) (captured := #[]) rfl w]
    simp
  · split at h
    · rename_i g first captured hf
      exact k g _ (fun w => run_call_value hf w) h
    · exact h.elim

/-- A call of a function in a region that draws. -/
theorem call_value_dr {d : DrI} {f : Operand} {args : Array Operand} {argTypes : Array TypeId} {dst : Option Tmp} {type : TypeId} {pos : String} {after : Array Edge} {guard : Option (Nat × Bool)} {X : Prop}
    (h : opStep P (some d) ⟨dst, .call { callee := .value f, args, argTypes }, type, pos, after, guard⟩ env K H c)
    (k : ∀ g vs, (∀ w, (execOp (ev env) ⟨dst, .call { callee := .value f, args, argTypes }, type, pos, after, guard⟩).run P w = (callFunc g vs.toArray).run P w) →
      ((f = .func g ∧ d.qs.contains g = true ∧ QStep P g vs K H fun v => c v K H) ∨ ((∀ g', f = .func g' → d.qs.contains g' = false) ∧ CallStep P g vs K H fun v K H => d.Keep K H ∧ c v K H)) → X) : X := by
  simp only [opStep, evK_eq, evKs_eq] at h
  split at h
  · rename_i g
    refine k g (args.toList.map (ev env)) (fun w => ?_) ?_
    · rw [run_call_value (f := .func g) (g := g) (first := #[]) (captured := #[]) rfl w]
      simp
    · split at h
      · rename_i hq; exact .inl ⟨rfl, hq, h⟩
      · rename_i hq; exact .inr ⟨fun g' e => by cases e; exact hq, h⟩
  · rename_i hnf
    split at h
    · rename_i g first captured hf
      exact k g _ (fun w => run_call_value hf w) (.inr ⟨fun g' e => (hnf g' e).elim, h⟩)
    · exact h.elim

theorem op_sound (h : opStep P none o env K H c) (s : Sat Γ K H w) : o.wp P (act env) w (Next' Γ env o c) (fun _ _ _ => False) := by
  obtain ⟨dst, op, type, pos, after, guard⟩ := o
  cases op
  case move x =>
    simp only [opStep, evK_eq] at h
    exact wp_value (o := ⟨dst, .move x, type, pos, after, guard⟩) (w := w) (by simp [execOp]) ⟨_, K, H, rfl, s, h⟩
  case assign x =>
    simp only [opStep, evK_eq] at h
    exact wp_value (o := ⟨dst, .assign x, type, pos, after, guard⟩) (w := w) (by simp [execOp]) ⟨_, K, H, rfl, s, h⟩
  case pick b x y =>
    simp only [opStep, evK_eq] at h
    split at h
    · rename_i vb b' hb
      rcases condP_true h with ⟨e, h'⟩ | ⟨e, h'⟩
      · exact wp_value (o := ⟨dst, .pick b x y, type, pos, after, guard⟩) (w := w) (v := ev env x) (by simp [execOp, hb, asBool, e]) ⟨_, K, H, rfl, s, h'⟩
      · exact wp_value (o := ⟨dst, .pick b x y, type, pos, after, guard⟩) (w := w) (v := ev env y) (by simp [execOp, hb, asBool, e]) ⟨_, K, H, rfl, s, h'⟩
    · exact h.elim
  case binOp op t x y yt =>
    simp only [opStep, evK_eq] at h
    obtain ⟨v, h1, h2⟩ := bin_sound h
    exact wp_value (o := ⟨dst, .binOp op t x y yt, type, pos, after, guard⟩) (w := w) (h1 w) ⟨v, K, H, rfl, s, h2⟩
  case unOp => simp only [opStep, evK_eq] at h; exact sound_n (by rfl) h s
  case convert src d x =>
    simp only [opStep, evK_eq] at h
    split at h
    · exact sound_n (by rfl) h s
    · exact sound_r (by rfl) h s
    · exact sound_n (by rfl) h s
    · exact sound_w (by rfl) h s
  case nilCheck => simp only [opStep, evK_eq] at h; exact sound_n (by rfl) h s
  case fieldAddr => simp only [opStep, evK_eq] at h; exact sound_n (by rfl) h s
  case field => simp only [opStep, evK_eq] at h; exact sound_n (by rfl) h s
  case indexAddr => simp only [opStep, evK_eq] at h; exact sound_r (by rfl) h s
  case index => simp only [opStep, evK_eq] at h; exact sound_n (by rfl) h s
  case slice => simp only [opStep, evK_eq, evKo_eq] at h; exact sound_r (by rfl) h s
  case build t parts => simp only [opStep, evKp_eq] at h; exact sound_n (by simp only [execOp, M.sem, amap]) h s
  case makeInterface => simp only [opStep, evK_eq] at h; exact sound_n (by rfl) h s
  case typeAssert => simp only [opStep, evK_eq] at h; exact sound_n (by rfl) h s
  case extract x i =>
    simp only [opStep, evK_eq] at h
    split at h
    · rename_i vs hv
      obtain ⟨v, hg, h⟩ := extK_spec h
      have hg : vs[i]? = some v := by simpa using hg
      exact wp_value (o := ⟨dst, .extract x i, type, pos, after, guard⟩) (w := w) (v := v) (by simp [execOp, hv, Instr.extract, hg]) ⟨_, K, H, rfl, s, h⟩
    · exact h.elim
  case makeFunc => simp only [opStep, evKs_eq] at h; exact sound_n (by simp only [execOp, M.sem, amap]) h s
  case load => simp only [opStep, evK_eq] at h; exact sound_r (by rfl) h s
  case store => simp only [opStep, evK_eq] at h; exact sound_w (by rfl) h s
  case alloc => simp only [opStep] at h; exact sound_w (by rfl) h s
  case box => simp only [opStep, evK_eq] at h; exact sound_w (by rfl) h s
  case buildSlice => simp only [opStep, evKp_eq] at h; exact sound_w (by simp only [execOp, M.sem, amap]) h s
  case makeMap => simp only [opStep, evKo_eq] at h; exact sound_w (by rfl) h s
  case makeSlice => simp only [opStep, evK_eq] at h; exact sound_w (by rfl) h s
  case lookup => simp only [opStep, evK_eq] at h; exact sound_r (by rfl) h s
  case mapUpdate => simp only [opStep, evK_eq] at h; exact sound_w (by rfl) h s
  case insert => simp only [opStep, evK_eq] at h; exact sound_w (by rfl) h s
  case mapEntry => simp only [opStep, evK_eq] at h; exact sound_w (by rfl) h s
  case entryStore => simp only [opStep, evK_eq] at h; exact sound_w (by rfl) h s
  case range => simp only [opStep, evK_eq] at h; exact sound_w (by rfl) h s
  case next => simp only [opStep, evK_eq] at h; exact sound_w (by rfl) h s
  case entry => simp only [opStep, evK_eq] at h; exact sound_r (by rfl) h s
  case call cc =>
    obtain ⟨callee, args, argTypes⟩ := cc
    cases callee with
    | value f => exact call_value h fun g vs he h => sound_call he h s
    | invoke r n => exact h.elim
    | builtin b =>
      simp only [opStep, evKs_eq] at h
      have he : execOp (ev env) ⟨dst, .call { callee := .builtin b, args, argTypes }, type, pos, after, guard⟩ = M.sem (.builtin b argTypes type (args.map fun | .const _ => true | _ => false) (args.toList.map (ev env))) := by
        simp only [execOp, resolve, M.sem]
        show Go.builtin b argTypes type _ (args.map (ev env)) = _
        rw [amap (ev env)]; rfl
      split at h
      all_goals first
        | exact sound_r he h s
        | exact sound_w he h s
  all_goals exact h.elim
end

end Go.SL
