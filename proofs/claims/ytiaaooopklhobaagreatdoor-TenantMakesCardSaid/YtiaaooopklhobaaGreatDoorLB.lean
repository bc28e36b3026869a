/- The library: facts about walks, over any program. -/
import Derived.Test.YtiaaooopklhobaaGreatDoorLA
import Derived.Tactics
import Derived.Orders
set_option linter.unusedVariables false
set_option linter.unusedSimpArgs false
set_option linter.unusedSectionVars false
namespace Go.SL
open Go
def look : List Value → Nat → Value
 | [], _ => undef
 | v :: _, 0 => v
 | _ :: vs, n + 1 => look vs n
def upd : List Value → Nat → Value → List Value
 | [], _, _ => []
 | _ :: vs, 0, v => v :: vs
 | x :: vs, n + 1, v => x :: upd vs n v
def qlz (env : List Value) (dst : Option Nat) (v : Value) : List Value :=
 match dst with
 | some d => upd env d v
 | none => env
def ql1 : List Value → Nat → (Value → Prop) → Prop
 | [], _, k => k undef
 | v :: _, 0, k => k v
 | _ :: vs, n + 1, k => ql1 vs n k
def qwb : List Value → Nat → (Value → Prop) → Prop
 | [], _, _ => False
 | v :: _, 0, k => k v
 | _ :: vs, n + 1, k => qwb vs n k
theorem qfp : ∀ {l : List Value} {i : Nat} {k : Value → Prop}, qwb l i k → ∃ v, l[i]? = some v ∧ k v
 | [], _, _, h => h.elim
 | v :: _, 0, _, h => ⟨v, rfl, h⟩
 | _ :: vs, n + 1, k, h => by simpa using qfp (l := vs) h
def ev (env : List Value) : Operand → Value
 | .tmp t => look env t
 | .const v => v
 | .global g => .pointer (some ⟨g, 0, none⟩)
 | .func f => .func (.func f) #[] #[]
def evK (env : List Value) (x : Operand) (k : Value → Prop) : Prop :=
 match x with
 | .tmp t => ql1 env t k
 | .const v => k v
 | .global g => k (.pointer (some ⟨g, 0, none⟩))
 | .func f => k (.func (.func f) #[] #[])
def qse (env : List Value) : List Operand → (List Value → Prop) → Prop
 | [], k => k []
 | x :: xs, k => evK env x fun v => qse env xs fun vs => k (v :: vs)
def evKo (env : List Value) (x : Option Operand) (k : Option Value → Prop) : Prop :=
 match x with
 | none => k none
 | some x => evK env x fun v => k (some v)
def qum (env : List Value) : List (Nat × Operand) → (List (Nat × Value) → Prop) → Prop
 | [], k => k []
 | (i, x) :: xs, k => evK env x fun v => qum env xs fun vs => k ((i, v) :: vs)
def qbx {α : Type} : List α → (List α → Prop) → Prop
 | [], k => k []
 | a :: l, k => qbx l fun l' => k (a :: l')
theorem qa9 {α : Type} : ∀ (l : List α) (k : List α → Prop), qbx l k = k l
 | [], _ => rfl
 | a :: l, k => qa9 l _
theorem qew : ∀ (env : List Value) (t : Nat) (k : Value → Prop), ql1 env t k = k (look env t)
 | [], _, _ => rfl
 | _ :: _, 0, _ => rfl
 | _ :: vs, n + 1, k => qew vs n k
theorem qa5 (env : List Value) (x : Operand) (k : Value → Prop) : evK env x k = k (ev env x) := by
 cases x <;> simp [evK, ev, qew]
theorem qdp (env : List Value) : ∀ (xs : List Operand) (k : List Value → Prop), qse env xs k = k (xs.map (ev env))
 | [], _ => rfl
 | x :: xs, k => by simp [qse, qa5, qdp env xs]
theorem qh1 (env : List Value) (x : Option Operand) (k : Option Value → Prop) : evKo env x k = k (x.map (ev env)) := by
 cases x <;> simp [evKo, qa5]
theorem qfc (env : List Value) : ∀ (xs : List (Nat × Operand)) (k : List (Nat × Value) → Prop), qum env xs k = k (xs.map fun p => (p.1, ev env p.2))
 | [], _ => rfl
 | (i, x) :: xs, k => by simp [qum, qa5, qfc env xs]
theorem qdt : ∀ (env : List Value) (t : Nat), look env t = env.getD t undef
 | [], _ => by simp [look]
 | _ :: _, 0 => by simp [look]
 | _ :: vs, n + 1 => by simp only [look]; rw [qdt vs n]; simp
theorem qov : ∀ (env : List Value) (t : Nat) (v : Value), upd env t v = env.set t v
 | [], _, _ => rfl
 | _ :: _, 0, _ => rfl
 | _ :: vs, n + 1, v => by simp [upd, qov vs n v]
def act (env : List Value) : Act := ⟨env.toArray, []⟩
theorem qcf (env : List Value) : (act env).eval = ev env := by
 funext x
 cases x <;> simp [Act.eval, act, ev, qdt]
theorem qcb (env : List Value) (d : Option Nat) (v : Value) : (act env).put d v = act (qlz env d v) := by
 cases d <;> simp [Act.put, act, qlz, qov]
inductive M where
 | bin (op : BinOp) (t : TypeId) (xo yo : Operand) (x y : Value)
 | un (op : UnOp) (x : Value)
 | conv (src dst : TypeId) (x : Value)
 | nilCheck (x : Value)
 | fieldAddr (s : TypeId) (x : Value) (f : Nat)
 | field (t : TypeId) (x : Value) (f : Nat)
 | indexAddr (t : TypeId) (x i : Value)
 | index (t : TypeId) (x i : Value)
 | slice (t : TypeId) (x : Value) (lo hi mx : Option Value)
 | build (t : TypeId) (parts : List (Nat × Value))
 | mkIface (t : TypeId) (x : Value)
 | assert (x : Value) (xt t : TypeId) (ok : Bool)
 | extract (x : Value) (i : Nat)
 | mkFunc (fn : Fn) (first captured : List Value)
 | load (t : TypeId) (a : Value)
 | store (t : TypeId) (a v : Value)
 | alloc (t : TypeId)
 | box (t : TypeId) (v : Value)
 | buildSlice (t : TypeId) (len : Nat) (parts : List (Nat × Value))
 | makeMap (t : TypeId) (r : Option Value)
 | makeSlice (t : TypeId) (l c : Value)
 | lookup (t : TypeId) (m k : Value) (ok : Bool)
 | mapUpdate (t : TypeId) (m k v : Value)
 | mapEntry (t : TypeId) (m k : Value)
 | entryStore (t : TypeId) (m s v : Value)
 | range (t : TypeId) (x : Value)
 | next (it : Value) (isString : Bool) (t : TypeId)
 | entry (it : Value)
 | builtin (b : Builtin) (argTypes : Array TypeId) (type : TypeId) (consts : Array Bool) (args : List Value)
def M.sem (m : M) : Sem Next :=
 let v (s : Sem Value) : Sem Next := do pure (.value (← s))
 let u (s : Sem Unit) : Sem Next := do s; pure .skip
 match m with
 | .bin op t xo yo x y => v (do eqGuard op t xo yo x y; binOp op t x y)
 | .un op x => v (Op.unary op x)
 | .conv src dst x => v (convert src dst x)
 | .nilCheck x => execOp (fun _ => x) ⟨none, .nilCheck (.tmp 0), 0, "", #[], none⟩
 | .fieldAddr s x f => v (Instr.fieldAt s x f)
 | .field t x f => v (Instr.field t x f)
 | .indexAddr t x i => v (Instr.indexAt t x i)
 | .index t x i => v (Instr.index t x i)
 | .slice t x lo hi mx => v (Instr.sliceAt t x lo hi mx)
 | .build t parts => v (Instr.build t parts.toArray)
 | .mkIface t x => v (Instr.makeInterface t x)
 | .assert x xt t ok => v (Instr.typeAssert x xt t ok)
 | .extract x i => v (Instr.extract x i)
 | .mkFunc fn first captured => v (Instr.makeFunc fn first.toArray captured.toArray)
 | .load t a => v (Instr.loadAt t a)
 | .store t a x => u (Instr.storeAt t a x)
 | .alloc t => v (Instr.alloc t true (.tuple #[]))
 | .box t x => v (Instr.box t x)
 | .buildSlice t len parts => v (Instr.buildSlice t len parts.toArray)
 | .makeMap t r => v (Instr.makeMap t r)
 | .makeSlice t l c => v (Instr.makeSlice t l c)
 | .lookup t m k ok => v (Instr.lookup t m k ok)
 | .mapUpdate t m k x => u (Instr.mapUpdate t m k x)
 | .mapEntry t m k => v (Instr.mapEntry t m k)
 | .entryStore t m s x => u (Instr.entryStore t m s x)
 | .range t x => v (Instr.range t x)
 | .next it isString t => v (Instr.next it isString t)
 | .entry it => v (Instr.entry it)
 | .builtin b ts t cs args => Go.builtin b ts t cs args.toArray
structure Dr where
 qs : List FuncId
 lr : Bool
structure DrI extends Dr where
 K : Hp
 priv : List (Nat × Obj)
 cin : List (Nat × List Value)
def qw6 (q : Nat × List Value) (w : World) : Prop := ∃ c T fz, w.heap[q.1]? = some (.cells c T fz) ∧ ∀ (j : Nat) (v : Value), q.2[j]? = some v → c[j]? = some v
def CIn (l : List (Nat × List Value)) (H : List HProp) : Prop := ∀ Γ K w, Sat Γ K H w → ∀ q ∈ l, qw6 q w
theorem ci0 {H : List HProp} : CIn [] H := fun _ _ _ _ _ h => by cases h
def DrI.I (d : DrI) (w : World) : Prop := (∀ i o, d.K i = some o → w.heap[i]? = some o) ∧ (∀ p ∈ d.priv, w.heap[p.1]? = some p.2) ∧ ∀ q ∈ d.cin, qw6 q w
def DrI.Keep (d : DrI) (K : Hp) (H : List HProp) : Prop := d.K.Le K ∧ ConvH H (d.priv.map fun p => Blk p.1 p.2) ∧ CIn d.cin H
theorem DrI.Keep.inv {d : DrI} {K : Hp} {H : List HProp} (h : d.Keep K H) {Γ w : World} (s : Sat Γ K H w) : d.I w :=
 ⟨fun i o hi => s.know i o (h.1 i o hi), Sat.all_blk (s.conv h.2.1), fun q hq => h.2.2 Γ K w s q hq⟩
abbrev VP := Value → Hp → List HProp → Prop
abbrev KP := List Value → Hp → List HProp → Prop
structure NStep (P : Program) (m : M) (c : Value → Prop) : Prop where ctor ::
 out : ∃ v, (∀ w, m.sem.run P w = .ok (.value v) w) ∧ c v
structure RStepS (P : Program) (m : M) (K : Hp) (H : List HProp) (c : Value → Prop) : Prop where ctor ::
 out : ∃ v, (∀ Γ w, Sat Γ K H w → m.sem.run P w = .ok (.value v) w) ∧ c v
structure RStep (P : Program) (m : M) (K : Hp) (H : List HProp) (c : Value → Prop) : Prop where ctor ::
 out : ∀ Γ w, Sat Γ K H w → ∃ v, m.sem.run P w = .ok (.value v) w ∧ c v
structure LStep (P : Program) (m : M) (d : DrI) (c : Value → Prop) : Prop where ctor ::
 out : ∃ v, (∀ w, d.I w → m.sem.run P w = .ok (.value v) w) ∧ c v
structure QStep (P : Program) (f : FuncId) (args : List Value) (K : Hp) (H : List HProp) (c : Value → Prop) : Prop where ctor ::
 out : (∀ a w, (callFunc f a).run P w = .ok (.enter f a) w) ∧
 ∃ v, (∀ Γ w, Sat Γ K H w → Calls P f args.toArray w fun e w' => e = .returned v ∧ Sat Γ K H w') ∧ c v
structure WStep (P : Program) (m : M) (K : Hp) (H : List HProp) (c : VP) : Prop where ctor ::
 out : ∀ Γ w, Sat Γ K H w → ∃ r w' v K' H', m.sem.run P w = .ok r w' ∧ (r = .value v ∨ (r = .skip ∧ v = undef)) ∧ Sat Γ K' H' w' ∧ c v K' H'
structure CallStep (P : Program) (f : FuncId) (args : List Value) (K : Hp) (H : List HProp) (c : VP) : Prop where ctor ::
 out : (∀ a w, (callFunc f a).run P w = .ok (.enter f a) w) ∧
 ∀ Γ w, Sat Γ K H w → Calls P f args.toArray w fun e w' => ∃ v K' H', e = .returned v ∧ Sat Γ K' H' w' ∧ c v K' H'
structure IntStep (k : IntKind) (e : Int) (c : Value → Prop) : Prop where ctor ::
 out : c (.int k (k.wrap e))
structure qdu (b : Bool) (A B : Prop) : Prop where ctor ::
 out : (b = true ∧ A) ∨ (b = false ∧ B)
theorem condP_true {A B : Prop} {b : Bool} (h : qdu b A B) : (b = true ∧ A) ∨ (b = false ∧ B) := by
 exact h.out
theorem qnc {b : Bool} {A B : Prop} (h : b = true) (a : A) : qdu b A B := ⟨.inl ⟨h, a⟩⟩
theorem qsf {b : Bool} {A B : Prop} (h : b = false) (a : B) : qdu b A B := ⟨.inr ⟨h, a⟩⟩
theorem qsg {A B : Prop} (a : A) : qdu true A B := qnc rfl a
theorem qsh {A B : Prop} (a : B) : qdu false A B := qsf rfl a
theorem qaf {b : Bool} {A B : Prop} (h : b = true → A) (k : b = false → B) : qdu b A B := by
 cases b
 ·exact qsh (k rfl)
 ·exact qsg (h rfl)
def qjy (P : Program) (op : BinOp) (t : TypeId) (xo yo : Operand) (x y : Value) (c : Value → Prop) : Prop :=
 match op with
 | .add => match x, y with
  | .int k a, .int k' b => if k = k' then IntStep k (a + b) c else False
  | x, y => NStep P (.bin .add t xo yo x y) c
 | .sub => match x, y with
  | .int k a, .int k' b => if k = k' then IntStep k (a - b) c else False
  | x, y => NStep P (.bin .sub t xo yo x y) c
 | .mul => match x, y with
  | .int k a, .int k' b => if k = k' then IntStep k (a * b) c else False
  | x, y => NStep P (.bin .mul t xo yo x y) c
 | .lss => match x, y with
  | .int k a, .int k' b => if k = k' then c (.bool (decide (a < b))) else False
  | x, y => NStep P (.bin .lss t xo yo x y) c
 | .leq => match x, y with
  | .int k a, .int k' b => if k = k' then c (.bool (decide (a ≤ b))) else False
  | x, y => NStep P (.bin .leq t xo yo x y) c
 | .gtr => match x, y with
  | .int k a, .int k' b => if k = k' then c (.bool (decide (a > b))) else False
  | x, y => NStep P (.bin .gtr t xo yo x y) c
 | .geq => match x, y with
  | .int k a, .int k' b => if k = k' then c (.bool (decide (a ≥ b))) else False
  | x, y => NStep P (.bin .geq t xo yo x y) c
 | op => NStep P (.bin op t xo yo x y) c
def qjz : List Oper → Nat → Option Nat
 | [], _ => none
 | o :: _, 0 => o.dst
 | _ :: l, n + 1 => qjz l n
def lenN (P : Program) (ts : Array TypeId) : Bool := match ts.toList with
 | [t] => match P.underlying t with
  | some (.slice _) => true
  | some .string => true
  | _ => false
 | _ => false
def qau (P : Program) (dr : Option DrI) (o : Oper) (env : List Value) (K : Hp) (H : List HProp) (c : VP) : Prop :=
 let n (m : M) : Prop := NStep P m fun v => c v K H
 let r (m : M) : Prop := match dr with
  | some _ => RStepS P m K H fun v => c v K H
  | none => RStep P m K H fun v => c v K H
 let nr (m : M) : Prop := match dr with
  | some _ => NStep P m fun v => c v K H
  | none => RStep P m K H fun v => c v K H
 let w (m : M) : Prop := match dr with
  | some d => WStep P m K H fun v K H => d.Keep K H ∧ c v K H
  | none => WStep P m K H c
 match o.op with
 | .move x | .assign x => evK env x fun v => c v K H
 | .pick b x y => evK env b fun vb => match vb with
  | .bool b => qdu b (evK env x fun v => c v K H) (evK env y fun v => c v K H)
  | _ => False
 | .binOp op t x y _ => evK env x fun vx => evK env y fun vy => qjy P op t x y vx vy fun v => c v K H
 | .unOp op _ x => evK env x fun vx => n (.un op vx)
 | .convert src dst x => evK env x fun vx => match P.underlying src, P.underlying dst with
  | some (.int _), some (.int _) => n (.conv src dst vx)
  | some (.slice _), some .string => r (.conv src dst vx)
  | some .string, some .string => n (.conv src dst vx)
  | _, _ => w (.conv src dst vx)
 | .nilCheck x => evK env x fun vx => n (.nilCheck vx)
 | .fieldAddr s x f => evK env x fun vx => n (.fieldAddr s vx f)
 | .field t x f => evK env x fun vx => n (.field t vx f)
 | .indexAddr t x i => evK env x fun vx => evK env i fun vi => nr (.indexAddr t vx vi)
 | .index t x i => evK env x fun vx => evK env i fun vi => n (.index t vx vi)
 | .slice t x lo hi mx => evK env x fun vx => evKo env lo fun vl => evKo env hi fun vh => evKo env mx fun vm => nr (.slice t vx vl vh vm)
 | .build t parts => qum env parts.toList fun ps => n (.build t ps)
 | .makeInterface t x => evK env x fun vx => n (.mkIface t vx)
 | .typeAssert x xt t ok => evK env x fun vx => n (.assert vx xt t ok)
 | .extract x i => evK env x fun vx => match vx with
  | .tuple vs => qwb vs.toList i fun v => c v K H
  | _ => False
 | .makeFunc fn first captured => qse env first.toList fun vf => qse env captured.toList fun vc => n (.mkFunc fn vf vc)
 | .load t a => evK env a fun va => match dr with
  | some d => match d.lr with
   | true => RStepS P (.load t va) K H fun v => c v K H
   | false => LStep P (.load t va) d fun v => c v K H
  | none => RStep P (.load t va) K H fun v => c v K H
 | .store t a x => evK env a fun va => evK env x fun vx => w (.store t va vx)
 | .alloc t => w (.alloc t)
 | .box t x => evK env x fun vx => w (.box t vx)
 | .buildSlice t len parts => qum env parts.toList fun ps => w (.buildSlice t len ps)
 | .makeMap t x => evKo env x fun vx => w (.makeMap t vx)
 | .makeSlice t l x => evK env l fun vl => evK env x fun vx => w (.makeSlice t vl vx)
 | .lookup t m k ok => evK env m fun vm => evK env k fun vk => r (.lookup t vm vk ok)
 | .mapUpdate t m k x | .insert t m k x => evK env m fun vm => evK env k fun vk => evK env x fun vx => w (.mapUpdate t vm vk vx)
 | .mapEntry t m k => evK env m fun vm => evK env k fun vk => w (.mapEntry t vm vk)
 | .entryStore t m s x => evK env m fun vm => evK env s fun vs => evK env x fun vx => w (.entryStore t vm vs vx)
 | .range t x => evK env x fun vx => w (.range t vx)
 | .next it s => evK env it fun vi => w (.next vi s o.type)
 | .entry it => evK env it fun vi => r (.entry vi)
 | .call { callee := .value f, args, .. } => match f with
  | .func g => qse env args.toList fun vs => match dr with
   | some d => match d.qs.contains g with
    | true => QStep P g vs K H fun v => c v K H
    | false => CallStep P g vs K H fun v K H => d.Keep K H ∧ c v K H
   | none => CallStep P g vs K H c
  | f => evK env f fun vf => qse env args.toList fun vs => match vf with
   | .func (.func g) first captured => match dr with
    | some d => CallStep P g (first.toList ++ vs ++ captured.toList) K H fun v K H => d.Keep K H ∧ c v K H
    | none => CallStep P g (first.toList ++ vs ++ captured.toList) K H c
   | _ => False
 | .call { callee := .builtin b, args, argTypes } => qse env args.toList fun vs =>
  match b with
  | .len => match dr with
   | some _ => match lenN P argTypes with
    | true => n (.builtin b argTypes o.type (args.map fun | .const _ => true | _ => false) vs)
    | false => r (.builtin b argTypes o.type (args.map fun | .const _ => true | _ => false) vs)
   | none => r (.builtin b argTypes o.type (args.map fun | .const _ => true | _ => false) vs)
  | .min | .max => match dr with
   | some _ => n (.builtin b argTypes o.type (args.map fun | .const _ => true | _ => false) vs)
   | none => r (.builtin b argTypes o.type (args.map fun | .const _ => true | _ => false) vs)
  | .cap => r (.builtin b argTypes o.type (args.map fun | .const _ => true | _ => false) vs)
  | b => w (.builtin b argTypes o.type (args.map fun | .const _ => true | _ => false) vs)
 | _ => False
def qow (P : Program) (dr : Option DrI) (ops : List Oper) (o : Oper) (ih : KP) : KP := fun env K H =>
 let run : Prop := qau P dr o env K H fun v K H => qbx (qlz env o.dst v) fun env => qbx H fun H => ih env K H
 match o.guard with
 | none => run
 | some (j, want) =>
  match qjz ops j with
  | some d => ql1 env d fun vb => match vb with
   | .bool b => match want with
    | true => qdu b run (qbx (qlz env o.dst undef) fun env => ih env K H)
    | false => qdu b (qbx (qlz env o.dst undef) fun env => ih env K H) run
   | .tuple _ => qbx (qlz env o.dst undef) fun env => ih env K H
   | _ => False
  | none => False
noncomputable def qfq (P : Program) (dr : Option DrI) (ops : List Oper) (Q : KP) (l : List Oper) : KP := List.rec (motive := fun _ => KP) Q (fun o _ ih => qow P dr ops o ih) l
theorem qn8 {P : Program} {dr : Option DrI} {ops : List Oper} {Q : KP} {o : Oper} {l : List Oper} : qfq P dr ops Q (o :: l) = qow P dr ops o (qfq P dr ops Q l) := rfl
def ql4 (Γ : World) (env : List Value) (o : Oper) (c : VP) (a : Act) (w : World) : Prop :=
 ∃ v K H, a = act (qlz env o.dst v) ∧ Sat Γ K H w ∧ c v K H
theorem NStep.elim {P : Program} {m : M} {c : Value → Prop} (h : NStep P m c) : ∃ v, (∀ w, m.sem.run P w = .ok (.value v) w) ∧ c v := by
 exact h.out
theorem RStepS.elim {P : Program} {m : M} {K : Hp} {H : List HProp} {c : Value → Prop} (h : RStepS P m K H c) :
  ∃ v, (∀ Γ w, Sat Γ K H w → m.sem.run P w = .ok (.value v) w) ∧ c v := by
 exact h.out
theorem RStep.elim {P : Program} {m : M} {K : Hp} {H : List HProp} {c : Value → Prop} (h : RStep P m K H c) :
  ∀ Γ w, Sat Γ K H w → ∃ v, m.sem.run P w = .ok (.value v) w ∧ c v := by
 exact h.out
theorem WStep.elim {P : Program} {m : M} {K : Hp} {H : List HProp} {c : VP} (h : WStep P m K H c) :
  ∀ Γ w, Sat Γ K H w → ∃ r w' v K' H', m.sem.run P w = .ok r w' ∧ (r = .value v ∨ (r = .skip ∧ v = undef)) ∧ Sat Γ K' H' w' ∧ c v K' H' := by
 exact h.out
theorem LStep.elim {P : Program} {m : M} {d : DrI} {c : Value → Prop} (h : LStep P m d c) : ∃ v, (∀ w, d.I w → m.sem.run P w = .ok (.value v) w) ∧ c v := by
 exact h.out
theorem QStep.elim {P : Program} {f : FuncId} {args : List Value} {K : Hp} {H : List HProp} {c : Value → Prop} (h : QStep P f args K H c) :
  (∀ a w, (callFunc f a).run P w = .ok (.enter f a) w) ∧ ∃ v, (∀ Γ w, Sat Γ K H w → Calls P f args.toArray w fun e w' => e = .returned v ∧ Sat Γ K H w') ∧ c v := by
 exact h.out
theorem CallStep.elim {P : Program} {f : FuncId} {args : List Value} {K : Hp} {H : List HProp} {c : VP} (h : CallStep P f args K H c) :
  (∀ a w, (callFunc f a).run P w = .ok (.enter f a) w) ∧
  ∀ Γ w, Sat Γ K H w → Calls P f args.toArray w fun e w' => ∃ v K' H', e = .returned v ∧ Sat Γ K' H' w' ∧ c v K' H' := by
 exact h.out
theorem RStep.of {P : Program} {m : M} {K : Hp} {H : List HProp} {c : Value → Prop} (h : RStepS P m K H c) : RStep P m K H c := by
 obtain ⟨v, h1, h2⟩ := h.elim
 exact ⟨fun Γ w s => ⟨v, h1 Γ w s, h2⟩⟩
theorem IntStep.elim {k : IntKind} {e : Int} {c : Value → Prop} (h : IntStep k e c) : c (.int k (k.wrap e)) := by
 exact h.out
section
variable {P : Program} {o : Oper} {env : List Value} {K : Hp} {H : List HProp} {c : VP} {Γ : World} {w : World}
theorem qdi {v : Value} {w' : World} (hr : (execOp (ev env) o).run P w = .ok (.value v) w') {next : Act → World → Prop} (h : next (act (qlz env o.dst v)) w') :
  o.wp P (act env) w next (fun _ _ _ => False) := by
 unfold Oper.wp
 rw [qcf, hr, Oper.upon_value, qcb]
 exact h
theorem qdc {m : M} (he : execOp (ev env) o = m.sem) (h : NStep P m fun v => c v K H) (s : Sat Γ K H w) :
  o.wp P (act env) w (ql4 Γ env o c) (fun _ _ _ => False) := by
 obtain ⟨v, h1, h2⟩ := h.elim
 exact qdi (by rw [he]; exact h1 w) ⟨v, K, H, rfl, s, h2⟩
theorem qfd {m : M} (he : execOp (ev env) o = m.sem) (h : RStep P m K H fun v => c v K H) (s : Sat Γ K H w) :
  o.wp P (act env) w (ql4 Γ env o c) (fun _ _ _ => False) := by
 obtain ⟨v, h1, h2⟩ := h.elim Γ w s
 exact qdi (by rw [he]; exact h1) ⟨v, K, H, rfl, s, h2⟩
theorem qbg {m : M} (he : execOp (ev env) o = m.sem) (h : WStep P m K H c) (s : Sat Γ K H w) :
  o.wp P (act env) w (ql4 Γ env o c) (fun _ _ _ => False) := by
 obtain ⟨r, w', v, K', H', h1, h2, h3, h4⟩ := h.elim Γ w s
 unfold Oper.wp
 rw [qcf, he, h1]
 rcases h2 with rfl | ⟨rfl, rfl⟩
 ·rw [Oper.upon_value, qcb]; exact ⟨v, K', H', rfl, h3, h4⟩
 ·rw [Oper.upon_skip, qcb]; exact ⟨undef, K', H', rfl, h3, h4⟩
theorem qi3 {g : FuncId} {args : List Value} (he : ∀ w, (execOp (ev env) o).run P w = (callFunc g args.toArray).run P w)
  (h : CallStep P g args K H c) (s : Sat Γ K H w) : o.wp P (act env) w (ql4 Γ env o c) (fun _ _ _ => False) := by
 obtain ⟨h1, h2⟩ := h.elim
 unfold Oper.wp
 rw [qcf, he, h1, Oper.upon_enter]
 exact (h2 Γ w s).mono fun e w' ⟨v, K', H', e1, e2, e3⟩ => by subst e1; show ql4 Γ env o c _ _; rw [qcb]; exact ⟨v, K', H', rfl, e2, e3⟩
theorem qh2 (op : BinOp) (t : TypeId) (xo yo : Operand) (k : IntKind) (a b : Int) (v : Value) (w : World)
  (hop : op ≠ .eql ∧ op ≠ .neq) (hb : (binOp op t (.int k a) (.int k b)).run P w = .ok v w) :
  (M.sem (.bin op t xo yo (.int k a) (.int k b))).run P w = .ok (.value v) w := by
 have hg : eqGuard op t xo yo (.int k a) (.int k b) = pure () := by
  unfold eqGuard
  cases op <;> simp_all
 simp [M.sem, hg, hb]
theorem qkt {op : BinOp} {t : TypeId} {xo yo : Operand} {x y : Value} {c : Value → Prop} (h : qjy P op t xo yo x y c) :
    ∃ v, (∀ w, (M.sem (.bin op t xo yo x y)).run P w = .ok (.value v) w) ∧ c v := by
  unfold qjy at h
  split at h
  all_goals first
    | exact h.elim
    | (split at h
       · split at h
         · rename_i e; subst e
           first
           | exact ⟨_, fun w => qh2 _ t xo yo _ _ _ _ w (by simp) (by simp [binOp, Op.intArith]), IntStep.elim h⟩
           | exact ⟨_, fun w => qh2 _ t xo yo _ _ _ _ w (by simp) (by simp [binOp, Op.intCmp]), h⟩
         · exact h.elim
       · exact h.elim)
theorem qnd {α β : Type} (f : α → β) (a : Array α) : a.map f = (a.toList.map f).toArray := by cases a; simp
theorem qcu {f : Operand} {args : Array Operand} {argTypes : Array TypeId} {dst : Option Tmp} {type : TypeId} {pos : String} {after : Array Edge} {guard : Option (Nat × Bool)}
  {g : FuncId} {first captured : Array Value} (hf : ev env f = .func (.func g) first captured) (w : World) :
  (execOp (ev env) ⟨dst, .call { callee := .value f, args, argTypes }, type, pos, after, guard⟩).run P w =
   (callFunc g (first.toList ++ args.toList.map (ev env) ++ captured.toList).toArray).run P w := by
 simp only [execOp, resolve, hf, Deferred.ofValue, Sem.run_bind, Sem.run_pure, Result.andThen_ok, invoke]
 congr 2
 rw [qnd]
 cases first; cases captured
 simp
theorem qn9 {f : Operand} {args : Array Operand} {argTypes : Array TypeId} {dst : Option Tmp} {type : TypeId} {pos : String} {after : Array Edge} {guard : Option (Nat × Bool)} {X : Prop}
  (h : qau P none ⟨dst, .call { callee := .value f, args, argTypes }, type, pos, after, guard⟩ env K H c)
  (k : ∀ g vs, (∀ w, (execOp (ev env) ⟨dst, .call { callee := .value f, args, argTypes }, type, pos, after, guard⟩).run P w = (callFunc g vs.toArray).run P w) → CallStep P g vs K H c → X) : X := by
 simp only [qau, qa5, qdp] at h
 split at h
 ·rename_i g
  refine k g _ (fun w => ?_) h
  rw [qcu (f := .func g) (g := g) (first := #[]) (captured := #[]) rfl w]
  simp
 ·split at h
  ·rename_i g first captured hf
   exact k g _ (fun w => qcu hf w) h
  ·exact h.elim
theorem qd2 {d : DrI} {f : Operand} {args : Array Operand} {argTypes : Array TypeId} {dst : Option Tmp} {type : TypeId} {pos : String} {after : Array Edge} {guard : Option (Nat × Bool)} {X : Prop}
  (h : qau P (some d) ⟨dst, .call { callee := .value f, args, argTypes }, type, pos, after, guard⟩ env K H c)
  (k : ∀ g vs, (∀ w, (execOp (ev env) ⟨dst, .call { callee := .value f, args, argTypes }, type, pos, after, guard⟩).run P w = (callFunc g vs.toArray).run P w) →
   ((f = .func g ∧ d.qs.contains g = true ∧ QStep P g vs K H fun v => c v K H) ∨ ((∀ g', f = .func g' → d.qs.contains g' = false) ∧ CallStep P g vs K H fun v K H => d.Keep K H ∧ c v K H)) → X) : X := by
 simp only [qau, qa5, qdp] at h
 split at h
 ·rename_i g
  refine k g (args.toList.map (ev env)) (fun w => ?_) ?_
  ·rw [qcu (f := .func g) (g := g) (first := #[]) (captured := #[]) rfl w]
   simp
  ·split at h
   ·rename_i hq; exact .inl ⟨rfl, hq, h⟩
   ·rename_i hq; exact .inr ⟨fun g' e => by cases e; exact hq, h⟩
 ·rename_i hnf
  split at h
  ·rename_i g first captured hf
   exact k g _ (fun w => qcu hf w) (.inr ⟨fun g' e => (hnf g' e).elim, h⟩)
  ·exact h.elim
theorem qqz (h : qau P none o env K H c) (s : Sat Γ K H w) : o.wp P (act env) w (ql4 Γ env o c) (fun _ _ _ => False) := by
 obtain ⟨dst, op, type, pos, after, guard⟩ := o
 cases op
 case move x =>
  simp only [qau, qa5] at h
  exact qdi (o := ⟨dst, .move x, type, pos, after, guard⟩) (w := w) (by simp [execOp]) ⟨_, K, H, rfl, s, h⟩
 case assign x =>
  simp only [qau, qa5] at h
  exact qdi (o := ⟨dst, .assign x, type, pos, after, guard⟩) (w := w) (by simp [execOp]) ⟨_, K, H, rfl, s, h⟩
 case pick b x y =>
  simp only [qau, qa5] at h
  split at h
  ·rename_i vb b' hb
   rcases condP_true h with ⟨e, h'⟩ | ⟨e, h'⟩
   ·exact qdi (o := ⟨dst, .pick b x y, type, pos, after, guard⟩) (w := w) (v := ev env x) (by simp [execOp, hb, asBool, e]) ⟨_, K, H, rfl, s, h'⟩
   ·exact qdi (o := ⟨dst, .pick b x y, type, pos, after, guard⟩) (w := w) (v := ev env y) (by simp [execOp, hb, asBool, e]) ⟨_, K, H, rfl, s, h'⟩
  ·exact h.elim
 case binOp op t x y yt =>
  simp only [qau, qa5] at h
  obtain ⟨v, h1, h2⟩ := qkt h
  exact qdi (o := ⟨dst, .binOp op t x y yt, type, pos, after, guard⟩) (w := w) (h1 w) ⟨v, K, H, rfl, s, h2⟩
 case unOp => simp only [qau, qa5] at h; exact qdc (by rfl) h s
 case convert src d x =>
  simp only [qau, qa5] at h
  split at h
  ·exact qdc (by rfl) h s
  ·exact qfd (by rfl) h s
  ·exact qdc (by rfl) h s
  ·exact qbg (by rfl) h s
 case nilCheck => simp only [qau, qa5] at h; exact qdc (by rfl) h s
 case fieldAddr => simp only [qau, qa5] at h; exact qdc (by rfl) h s
 case field => simp only [qau, qa5] at h; exact qdc (by rfl) h s
 case indexAddr => simp only [qau, qa5] at h; exact qfd (by rfl) h s
 case index => simp only [qau, qa5] at h; exact qdc (by rfl) h s
 case slice => simp only [qau, qa5, qh1] at h; exact qfd (by rfl) h s
 case build t parts => simp only [qau, qfc] at h; exact qdc (by simp only [execOp, M.sem, qnd]) h s
 case makeInterface => simp only [qau, qa5] at h; exact qdc (by rfl) h s
 case typeAssert => simp only [qau, qa5] at h; exact qdc (by rfl) h s
 case extract x i =>
  simp only [qau, qa5] at h
  split at h
  ·rename_i vs hv
   obtain ⟨v, hg, h⟩ := qfp h
   have hg : vs[i]? = some v := by simpa using hg
   exact qdi (o := ⟨dst, .extract x i, type, pos, after, guard⟩) (w := w) (v := v) (by simp [execOp, hv, Instr.extract, hg]) ⟨_, K, H, rfl, s, h⟩
  ·exact h.elim
 case makeFunc => simp only [qau, qdp] at h; exact qdc (by simp only [execOp, M.sem, qnd]) h s
 case load => simp only [qau, qa5] at h; exact qfd (by rfl) h s
 case store => simp only [qau, qa5] at h; exact qbg (by rfl) h s
 case alloc => simp only [qau] at h; exact qbg (by rfl) h s
 case box => simp only [qau, qa5] at h; exact qbg (by rfl) h s
 case buildSlice => simp only [qau, qfc] at h; exact qbg (by simp only [execOp, M.sem, qnd]) h s
 case makeMap => simp only [qau, qh1] at h; exact qbg (by rfl) h s
 case makeSlice => simp only [qau, qa5] at h; exact qbg (by rfl) h s
 case lookup => simp only [qau, qa5] at h; exact qfd (by rfl) h s
 case mapUpdate => simp only [qau, qa5] at h; exact qbg (by rfl) h s
 case insert => simp only [qau, qa5] at h; exact qbg (by rfl) h s
 case mapEntry => simp only [qau, qa5] at h; exact qbg (by rfl) h s
 case entryStore => simp only [qau, qa5] at h; exact qbg (by rfl) h s
 case range => simp only [qau, qa5] at h; exact qbg (by rfl) h s
 case next => simp only [qau, qa5] at h; exact qbg (by rfl) h s
 case entry => simp only [qau, qa5] at h; exact qfd (by rfl) h s
 case call cc =>
  obtain ⟨callee, args, argTypes⟩ := cc
  cases callee with
  | value f => exact qn9 h fun g vs he h => qi3 he h s
  | invoke r n => exact h.elim
  | builtin b =>
   simp only [qau, qdp] at h
   have he : execOp (ev env) ⟨dst, .call { callee := .builtin b, args, argTypes }, type, pos, after, guard⟩ = M.sem (.builtin b argTypes type (args.map fun | .const _ => true | _ => false) (args.toList.map (ev env))) := by
    simp only [execOp, resolve, M.sem]
    show Go.builtin b argTypes type _ (args.map (ev env)) = _
    rw [qnd (ev env)]; rfl
   split at h
   all_goals first
    | exact qfd he h s
    | exact qbg he h s
 all_goals exact h.elim
end
open Go
inductive Cls where
 | n | r | w
 deriving DecidableEq
def clsOf (P : Program) (D : Dr) : Op → Cls
 | .move _ | .assign _ | .pick .. | .binOp .. | .unOp .. | .nilCheck _ | .fieldAddr .. | .field .. | .indexAddr .. | .index .. | .slice .. | .build ..
 | .makeInterface .. | .typeAssert .. | .extract .. | .makeFunc .. => .n
 | .convert src dst _ => match P.underlying src, P.underlying dst with
  | some (.int _), some (.int _) => .n
  | some (.slice _), some .string => .r
  | some .string, some .string => .n
  | _, _ => .w
 | .load .. => if D.lr then .r else .n
 | .lookup .. | .entry _ => .r
 | .call { callee := .value (.func f), .. } => if D.qs.contains f then .r else .w
 | .call { callee := .builtin b, argTypes, .. } => match b with
  | .len => if lenN P argTypes then .n else .r
  | .min | .max => .n
  | .cap => .r
  | _ => .w
 | _ => .w
def ql5 : Cls → Cls → Bool
 | .r, .w | .w, .r | .w, .w => false
 | _, _ => true
section
variable {P : Program} {D : Dr} {I : World → Prop} {ops : Array Oper}
def ql6 (P : Program) (o : Oper) (a : Act) (C : World → Prop) (v : Value) : Prop :=
 ∀ w, C w → (execOp a.eval o).run P w = .ok (.value v) w ∨ ∃ f args, (execOp a.eval o).run P w = .ok (.enter f args) w ∧ Calls P f args w fun e w' => e = .returned v ∧ C w'
def SOp (P : Program) (D : Dr) (I : World → Prop) (ops : Array Oper) (i : Nat) (next : Act → (World → Prop) → Prop) (a : Act) (C : World → Prop) : Prop :=
 match ops[i]? with
 | none => next a C
 | some o =>
  if Region.wanted o (yielded ops a.tmps) = true then
   match clsOf P D o.op with
   | .n => ∃ v, (∀ w, I w → (execOp a.eval o).run P w = .ok (.value v) w) ∧ next (a.put o.dst v) C
   | .r => ∃ v, ql6 P o a C v ∧ next (a.put o.dst v) C
   | .w => ∀ w, C w → o.wp P a w (fun a' w' => ∃ v C', a' = a.put o.dst v ∧ C' w' ∧ (∀ w, C' w → I w) ∧ next a' C') (fun _ _ _ => False)
  else next (a.put o.dst undef) C
def YC (P : Program) (D : Dr) (I : World → Prop) (ops : Array Oper) (o : Oper) (v : Value) (a : Act) (C : World → Prop) : Prop :=
 if Region.wanted o (yielded ops a.tmps) = true then
  match clsOf P D o.op with
  | .n => ∀ w, I w → (execOp a.eval o).run P w = .ok (.value v) w
  | .r => ql6 P o a C v
  | .w => False
 else v = undef
theorem qcw {i : Nat} {o : Oper} {next : Act → (World → Prop) → Prop} {a : Act} {C : World → Prop} (h : ops[i]? = some o)
  (hq : clsOf P D o.op ≠ .w ∨ Region.wanted o (yielded ops a.tmps) ≠ true) : SOp P D I ops i next a C ↔ ∃ v, YC P D I ops o v a C ∧ next (a.put o.dst v) C := by
 simp only [SOp, h, YC]
 by_cases hw : Region.wanted o (yielded ops a.tmps) = true
 ·simp only [hw, if_true]
  cases hc : clsOf P D o.op with
  | n => simp
  | r => simp
  | w => rcases hq with hq | hq <;> contradiction
 ·rw [qx1 hw]
  simp [hw]
theorem qq0 {i : Nat} {next next' : Act → (World → Prop) → Prop} {a : Act} {C : World → Prop} (hne : ∃ w, C w) (hCI : ∀ w, C w → I w)
  (hm : ∀ a C, (∃ w, C w) → (∀ w, C w → I w) → next a C → next' a C) (h : SOp P D I ops i next a C) : SOp P D I ops i next' a C := by
 unfold SOp at *
 split
 ·rename_i ho; simp only [ho] at h; exact hm _ _ hne hCI h
 ·rename_i o ho
  simp only [ho] at h
  split
  ·rename_i hw
   simp only [hw, if_true] at h
   cases hc : clsOf P D o.op with
   | n => simp only [hc] at h; exact let ⟨v, h1, h2⟩ := h; ⟨v, h1, hm _ _ hne hCI h2⟩
   | r => simp only [hc] at h; exact let ⟨v, h1, h2⟩ := h; ⟨v, h1, hm _ _ hne hCI h2⟩
   | w =>
    simp only [hc] at h
    exact fun w hw' => Oper.wp_mono (fun a' w' ⟨v, C', e, c, ci, n⟩ => ⟨v, C', e, c, ci, hm _ _ ⟨_, c⟩ ci n⟩) (h w hw')
  ·rename_i hw; rw [qx1 hw] at h; exact hm _ _ hne hCI h
theorem Oper.wp_some {o : Oper} {a : Act} {w : World} {K : Act → World → Prop} (h : o.wp P a w K (fun _ _ _ => False)) : ∃ a' w', K a' w' := by
  unfold Oper.wp at h
  generalize (execOp a.eval o).run P w = r at h
  cases r with
  | ok n w' =>
    cases n <;> simp only [Oper.upon] at h <;> first
      | exact ⟨_, _, h⟩
      | (obtain ⟨e, w'', fr, hR, _⟩ := h []
         cases e with
         | returned v => exact ⟨_, _, hR⟩
         | panicked c => exact hR.elim
         | outgrown => obtain ⟨_, _, hf⟩ := hR; exact hf.elim)
      | (obtain ⟨v, w'', hR, _⟩ := h default []; exact ⟨_, _, hR⟩)
  | halt x w' =>
    cases x <;> simp only [Oper.upon] at h
theorem qku {o : Oper} (hs : ∀ cs b, o.op ≠ .select cs b) {a : Act} {dst : Option Tmp} {u : Value} (hap : ∀ d, dst = some d → d ∉ o.looksAt ops) {v : Value} {C : World → Prop} :
  YC P D I ops o v (a.put dst u) C ↔ YC P D I ops o v a C := by
 unfold YC ql6
 rw [wanted_put o a dst u hap, execOp_put o hs a dst u hap]
theorem qq1 {i : Nat} {o : Oper} {next : Act → (World → Prop) → Prop} {a : Act} {C : World → Prop} (h : ops[i]? = some o)
  (hc : clsOf P D o.op = .w) (hw : Region.wanted o (yielded ops a.tmps) = true) :
  SOp P D I ops i next a C ↔ ∀ w, C w → o.wp P a w (fun a' w' => ∃ v C', a' = a.put o.dst v ∧ C' w' ∧ (∀ w, C' w → I w) ∧ next a' C') (fun _ _ _ => False) := by
 simp only [SOp, h, hw, if_true, hc]
theorem qsi {o : Oper} (hs : ∀ cs b, o.op ≠ .select cs b) {a : Act} {dst : Option Tmp} {u : Value} (h1 : ∀ d, dst = some d → d ∉ o.looksAt ops)
  (h2 : ∀ d, dst = some d → o.dst ≠ some d) {w : World} {K K' : Act → World → Prop}
  (hK : ∀ v w', K ((a.put o.dst v).put dst u) w' → K' (a.put o.dst v) w')
  (h : o.wp P (a.put dst u) w (fun a' w' => ∃ v, a' = (a.put dst u).put o.dst v ∧ K a' w') (fun _ _ _ => False)) :
  o.wp P a w (fun a' w' => ∃ v, a' = a.put o.dst v ∧ K' a' w') (fun _ _ _ => False) := by
 unfold Oper.wp at *
 rw [execOp_put o hs a dst u h1] at h
 generalize (execOp a.eval o).run P w = r at *
 have key : ∀ v w', (∃ v', (a.put dst u).put o.dst v = (a.put dst u).put o.dst v' ∧ K ((a.put dst u).put o.dst v) w') → ∃ v', a.put o.dst v = a.put o.dst v' ∧ K' (a.put o.dst v) w' := by
  rintro v w' ⟨_, _, hk⟩
  refine ⟨v, rfl, hK v w' ?_⟩
  have := Act.put_comm a u v (x := dst) (y := o.dst) (fun d hd => h2 d hd)
  rw [← this]
  exact hk
 cases r with
 | ok n w' =>
  cases n <;> simp only [Oper.upon] at h ⊢
  case value v => exact key v w' h
  case skip => exact key undef w' h
  case defer d =>
   exfalso
   obtain ⟨v, hv, _⟩ := h
   have := congrArg Act.defers hv
   cases hd : o.dst <;> cases hd' : dst <;> simp [Act.put, hd, hd'] at this
  case enter f args =>
   refine Calls.mono h fun e w'' he => ?_
   cases e with
   | returned v => exact key v w'' he
   | panicked c => exact he
   | outgrown => exact he
  case row row args => exact Rows.mono h fun v w'' he => key v w'' he
 | halt x w' => cases x <;> simp only [Oper.upon] at h
theorem qq2 {x i : Nat} {ox oi : Oper} (hx : ops[x]? = some ox) (hi : ops[i]? = some oi) (hap : ox.apart ops oi = true)
  (hsx : ∀ cs b, ox.op ≠ .select cs b) (hsi : ∀ cs b, oi.op ≠ .select cs b) (hk : ql5 (clsOf P D ox.op) (clsOf P D oi.op) = true)
  {next : Act → (World → Prop) → Prop} {a : Act} {C : World → Prop} (hne : ∃ w, C w) (hCI : ∀ w, C w → I w)
  (h : SOp P D I ops x (fun a C => SOp P D I ops i next a C) a C) : SOp P D I ops i (fun a C => SOp P D I ops x next a C) a C := by
 obtain ⟨h1, h2, h3⟩ := Oper.apart_spec hap
 have h2' : ∀ d, oi.dst = some d → ox.dst ≠ some d := fun d hd e => h2 d e hd
 by_cases qx : clsOf P D ox.op ≠ .w ∨ Region.wanted ox (yielded ops a.tmps) ≠ true
 ·obtain ⟨vx, yx, hn⟩ := (qcw hx qx).1 h
  have wi : Region.wanted oi (yielded ops (a.put ox.dst vx).tmps) = Region.wanted oi (yielded ops a.tmps) := wanted_put oi a ox.dst vx h1
  by_cases qi : clsOf P D oi.op ≠ .w ∨ Region.wanted oi (yielded ops a.tmps) ≠ true
  ·obtain ⟨vi, yi, hn'⟩ := (qcw hi (by rw [wi]; exact qi)).1 hn
   refine (qcw hi qi).2 ⟨vi, (qku hsi h1).1 yi, (qcw hx ?_).2 ⟨vx, (qku hsx h3).2 yx, ?_⟩⟩
   ·rw [wanted_put ox a oi.dst vi h3]; exact qx
   ·rw [← Act.put_comm a vx vi h2]; exact hn'
  ·have qi' : clsOf P D oi.op = .w ∧ Region.wanted oi (yielded ops a.tmps) = true := by
    constructor
    ·exact Classical.byContradiction fun e => qi (.inl e)
    ·exact Classical.byContradiction fun e => qi (.inr e)
   rw [qq1 hi qi'.1 (by rw [wi]; exact qi'.2)] at hn
   rw [qq1 hi qi'.1 qi'.2]
   have yx' : ∀ C', YC P D I ops ox vx a C' := by
    intro C'
    unfold YC at yx ⊢
    split
    ·rename_i hw
     simp only [hw, if_true] at yx
     rw [qi'.1] at hk
     cases hc : clsOf P D ox.op with
     | n => simp only [hc] at yx ⊢; exact yx
     | r => rw [hc] at hk; simp [ql5] at hk
     | w => rw [hc] at hk; simp [ql5] at hk
    ·rename_i hw; rw [qx1 hw] at yx; exact yx
   intro w hw
   have hn2 := hn w hw
   refine Oper.wp_mono ?_ (qsi hsi h1 (fun d hd e => h2 d hd e) (K := fun a' w' => ∃ C', C' w' ∧ (∀ w, C' w → I w) ∧ next a' C') (K' := fun a' w' => ∃ C', C' w' ∧ (∀ w, C' w → I w) ∧ next (a'.put ox.dst vx) C')
    (fun v w' ⟨C', c, ci, n⟩ => ⟨C', c, ci, n⟩) (Oper.wp_mono ?_ hn2))
   ·rintro a' w' ⟨v, rfl, C', c, ci, n⟩
    refine ⟨v, C', rfl, c, ci, (qcw hx ?_).2 ⟨vx, (qku hsx h3).2 (yx' C'), n⟩⟩
    rw [wanted_put ox a oi.dst v h3]; exact qx
   ·rintro a' w' ⟨v, C', rfl, c, ci, n⟩
    exact ⟨v, rfl, C', c, ci, n⟩
 ·have qx' : clsOf P D ox.op = .w ∧ Region.wanted ox (yielded ops a.tmps) = true := by
   constructor
   ·exact Classical.byContradiction fun e => qx (.inl e)
   ·exact Classical.byContradiction fun e => qx (.inr e)
  rw [qq1 hx qx'.1 qx'.2] at h
  have hcn : clsOf P D oi.op = .n := by
   cases hc : clsOf P D oi.op with
   | n => rfl
   | r => rw [qx'.1, hc] at hk; simp [ql5] at hk
   | w => rw [qx'.1, hc] at hk; simp [ql5] at hk
  have qi : ∀ a' : Act, clsOf P D oi.op ≠ .w ∨ Region.wanted oi (yielded ops a'.tmps) ≠ true := fun _ => .inl (by rw [hcn]; simp)
  have free : ∀ v a' C C', YC P D I ops oi v a' C → YC P D I ops oi v a' C' := by
   intro v a' C C' y
   unfold YC at y ⊢
   split
   ·rename_i hw; simp only [hw, if_true, hcn] at y ⊢; exact y
   ·rename_i hw; rw [qx1 hw] at y; exact y
  have uniq : ∀ v v' a' C C', YC P D I ops oi v a' C → YC P D I ops oi v' a' C' → v = v' := by
   intro v v' a' C C' y y'
   unfold YC at y y'
   split at y
   ·rename_i hw
    simp only [hw, if_true, hcn] at y y'
    obtain ⟨w, hw0⟩ := hne
    have := (y w (hCI w hw0)).symm.trans (y' w (hCI w hw0))
    simpa using this
   ·rename_i hw; rw [qx1 hw] at y'; rw [y, y']
  obtain ⟨w0, hw0⟩ := hne
  obtain ⟨a1, w1, v1, C1, rfl, c1, _, n1⟩ := Oper.wp_some (h w0 hw0)
  obtain ⟨vi, yi, _⟩ := (qcw hi (qi _)).1 n1
  have yi' : YC P D I ops oi vi a C := free _ _ _ _ ((qku hsi h1).1 yi)
  refine (qcw hi (qi _)).2 ⟨vi, yi', ?_⟩
  rw [qq1 hx qx'.1 (by rw [wanted_put ox a oi.dst vi h3]; exact qx'.2)]
  intro w hw
  have hh := h w hw
  unfold Oper.wp at hh ⊢
  rw [execOp_put ox hsx a oi.dst vi h3]
  generalize (execOp a.eval ox).run P w = r at *
  have key : ∀ v w', (∃ v' C', a.put ox.dst v = a.put ox.dst v' ∧ C' w' ∧ (∀ w, C' w → I w) ∧ SOp P D I ops i next (a.put ox.dst v) C') →
    ∃ v' C', (a.put oi.dst vi).put ox.dst v = (a.put oi.dst vi).put ox.dst v' ∧ C' w' ∧ (∀ w, C' w → I w) ∧ next ((a.put oi.dst vi).put ox.dst v) C' := by
   rintro v w' ⟨_, C', _, c, ci, n⟩
   obtain ⟨vi', y', n'⟩ := (qcw hi (qi _)).1 n
   have e := uniq _ _ _ _ _ yi' ((qku hsi h1).1 y')
   subst e
   refine ⟨v, C', rfl, c, ci, ?_⟩
   rw [← Act.put_comm a v vi h2]
   exact n'
  cases r with
  | ok n w' =>
   cases n <;> simp only [Oper.upon] at hh ⊢
   case value v => exact key v w' hh
   case skip => exact key undef w' hh
   case defer d =>
    exfalso
    obtain ⟨v, _, hv, _⟩ := hh
    have := congrArg Act.defers hv
    cases hd : ox.dst <;> simp [Act.put, hd] at this
   case enter f args =>
    refine Calls.mono hh fun e w'' he => ?_
    cases e with
    | returned v => exact key v w'' he
    | panicked c => exact he
    | outgrown => exact he
   case row row args => exact Rows.mono hh fun v w'' he => key v w'' he
  | halt x w' => cases x <;> simp only [Oper.upon] at hh
def SOps (P : Program) (D : Dr) (I : World → Prop) (ops : Array Oper) (Q : Act → (World → Prop) → Prop) : List Nat → Act → (World → Prop) → Prop
 | [] => Q
 | i :: l => SOp P D I ops i (SOps P D I ops Q l)
theorem qgp {Q : Act → (World → Prop) → Prop} {i : Nat} {oi : Oper} (hi : ops[i]? = some oi) (hsi : ∀ cs b, oi.op ≠ .select cs b) : ∀ (l1 l2 : List Nat),
  (∀ x ∈ l1, ∃ ox, ops[x]? = some ox ∧ ox.apart ops oi = true ∧ (∀ cs b, ox.op ≠ .select cs b) ∧ ql5 (clsOf P D ox.op) (clsOf P D oi.op) = true) →
  ∀ (a : Act) (C : World → Prop), (∃ w, C w) → (∀ w, C w → I w) → SOps P D I ops Q (l1 ++ i :: l2) a C → SOp P D I ops i (SOps P D I ops Q (l1 ++ l2)) a C
 | [], l2, _, _, _, _, _, h => h
 | x :: l1, l2, hc, a, C, hne, hCI, h => by
  obtain ⟨ox, hx, hap, hsx, hk⟩ := hc x (by simp)
  refine qq2 hx hi hap hsx hsi hk hne hCI (qq0 hne hCI (fun a C hne' hCI' h' => ?_) h)
  exact qgp hi hsi l1 l2 (fun y hy => hc y (by simp [hy])) a C hne' hCI' h'
theorem qh3 {Q : Exit → Act → World → Prop} {i : Nat} {next : Act → (World → Prop) → Prop} {a : Act} {C : World → Prop} {w : World} (hw : C w) (hCI : ∀ w, C w → I w)
  (h : SOp P D I ops i next a C) : wpOp P ops Q i (fun a w => ∃ C, C w ∧ (∀ w, C w → I w) ∧ next a C) a w := by
 unfold SOp at h
 unfold wpOp
 split
 ·rename_i ho; simp only [ho] at h; exact ⟨C, hw, hCI, h⟩
 ·rename_i o ho
  simp only [ho] at h
  split
  ·rename_i hwt
   simp only [hwt, if_true] at h
   left
   cases hc : clsOf P D o.op with
   | n =>
    simp only [hc] at h
    obtain ⟨v, h1, h2⟩ := h
    unfold Oper.wp; rw [h1 w (hCI w hw), Oper.upon_value]; exact ⟨C, hw, hCI, h2⟩
   | r =>
    simp only [hc] at h
    obtain ⟨v, h1, h2⟩ := h
    unfold Oper.wp
    rcases h1 w hw with h1 | ⟨f, args, h1, h3⟩
    ·rw [h1, Oper.upon_value]; exact ⟨C, hw, hCI, h2⟩
    ·rw [h1, Oper.upon_enter]
     exact h3.mono fun e w' ⟨he, hC⟩ => by subst he; exact ⟨C, hC, hCI, h2⟩
   | w =>
    simp only [hc] at h
    have := h w hw
    unfold Oper.wp at this ⊢
    generalize (execOp a.eval o).run P w = r at *
    cases r with
    | ok n w' =>
     cases n <;> simp only [Oper.upon] at this ⊢
     case value v => obtain ⟨_, C', _, c, ci, n⟩ := this; exact ⟨C', c, ci, n⟩
     case skip => obtain ⟨_, C', _, c, ci, n⟩ := this; exact ⟨C', c, ci, n⟩
     case defer d => obtain ⟨_, C', _, c, ci, n⟩ := this; exact ⟨C', c, ci, n⟩
     case enter f args =>
      refine Calls.mono this fun e w'' he => ?_
      cases e with
      | returned v => obtain ⟨_, C', _, c, ci, n⟩ := he; exact ⟨C', c, ci, n⟩
      | panicked c => exact he.elim
      | outgrown => obtain ⟨_, _, hf⟩ := he; exact hf.elim
     case row row args => exact Rows.mono this fun v w'' ⟨_, C', _, c, ci, n⟩ => ⟨C', c, ci, n⟩
    | halt x w' => cases x <;> simp only [Oper.upon] at this
  ·rename_i hwt; rw [qx1 hwt] at h; exact ⟨C, hw, hCI, h⟩
def pres (ops : Array Oper) : Nat → Nat → List Nat
 | 0, _ => []
 | n + 1, i => match ops[i]? with
  | none => []
  | some o => (o.after.toList.filter (Region.binds .any ·)).flatMap fun e => e.on :: pres ops n e.on
def commB (P : Program) (D : Dr) (ops : Array Oper) (x i : Nat) : Bool :=
 match ops[x]?, ops[i]? with
 | some ox, some oi => ox.apart ops oi && ql5 (clsOf P D ox.op) (clsOf P D oi.op)
 | _, _ => false
def qi4 (P : Program) (D : Dr) (ops : Array Oper) : Bool :=
 Region.noSelect ops && P.follows .mixedOrders &&
 (List.range ops.size).all fun i =>
  let ps := pres ops ops.size i
  ps.all (· < i) && (List.range i).all fun x => commB P D ops x i || ps.contains x
structure Down (ops : Array Oper) (listed : Array Bool) : Prop where
 down : ∀ i o, ops[i]? = some o → listed.getD i false = true → ∀ e ∈ o.after, Region.binds .any e = true → listed.getD e.on false = true
theorem Down.pres {listed : Array Bool} (d : Down ops listed) : ∀ (n i : Nat), (∀ o, ops[i]? = some o → ∀ e ∈ o.after, Region.binds .any e = true → listed.getD e.on false = true) →
  ∀ x ∈ pres ops n i, listed.getD x false = true := by
 intro n
 induction n with
 | zero => intro i _ x hx; simp [SL.pres] at hx
 | succ n ih =>
  intro i hi x hx
  simp only [SL.pres] at hx
  split at hx
  ·simp at hx
  ·rename_i o ho
   simp only [List.mem_flatMap, List.mem_filter] at hx
   obtain ⟨e, ⟨he, hb⟩, hx⟩ := hx
   have hl := hi o ho e (by simpa using he) hb
   rcases List.mem_cons.1 hx with rfl | hx
   ·exact hl
   ·exact ih e.on (fun o' ho' => d.down e.on o' ho' hl) x hx
theorem qh4 {z : Nat} (hsel : Region.noSelect ops = true) (hpairs : ∀ i, z ≤ i → i < ops.size → (∀ x ∈ SL.pres ops ops.size i, x < i) ∧ ∀ x, x < i → commB P D ops x i = true ∨ x ∈ SL.pres ops ops.size i) {Q : Exit → Act → World → Prop} {Qn : Act → (World → Prop) → Prop} (hQ : ∀ a C w, C w → Qn a C → Q .normal a w) :
  ∀ (fuel : Nat) (l : List Nat) (listed : Array Bool) (a : Act) (C : World → Prop) (w : World), listed.size = ops.size → l.Pairwise (· < ·) → (∀ i, i ∈ l ↔ i < ops.size ∧ listed.getD i false = false) → (∀ i ∈ l, z ≤ i) →
   l.length ≤ fuel → Down ops listed → C w → (∀ w, C w → I w) → SOps P D I ops Qn l a C → wpAny P .any ops Q fuel listed a w := by
 have hs : ∀ (j : Nat) (o : Oper) cs b, ops[j]? = some o → o.op ≠ .select cs b := fun j o cs b ho => Region.noSelect_spec hsel j o cs b ho
 intro fuel
 induction fuel with
 | zero =>
  intro l listed a C w hsz hsort hmem hz hlen hd hw hCI h
  have hl : l = [] := List.eq_nil_of_length_eq_zero (Nat.le_zero.1 hlen)
  subst hl
  refine ⟨?_, hQ a C w hw h⟩
  rw [List.eq_nil_iff_forall_not_mem]
  intro i hi
  obtain ⟨h2, o, ho, _⟩ := (mem_ready (md := .any) (ops := ops)).1 hi
  have h1 : i < ops.size := (Array.getElem?_eq_some_iff.1 ho).1
  have hin := (hmem i).2 ⟨h1, by
   have hlt : i < listed.size := by omega
   simpa [hlt] using h2⟩
  simp at hin
 | succ fuel ih =>
  intro l listed a C w hsz hsort hmem hz hlen hd hw hCI h
  refine ⟨fun hr => ?_, fun i hi => ?_⟩
  ·-- nothing is ready: then nothing is left: the least that is left would be ready
   cases l with
   | nil => exact hQ a C w hw h
   | cons i l =>
    exfalso
    have hi := (hmem i).1 (by simp)
    have : i ∈ Region.ready .any ops listed := by
     refine mem_ready.2 ⟨?_, ?_⟩
     ·have hlt : i < listed.size := by omega
      simpa [hlt] using hi.2
     ·refine ⟨ops[i]'hi.1, by simp [hi.1], fun e he hb => ?_⟩
      have hp := (hpairs i (hz i (by simp)) hi.1).1 e.on (by
       have : ops.size = ops.size - 1 + 1 := by omega
       rw [this, SL.pres]
       simp only [Array.getElem?_eq_getElem hi.1, List.mem_flatMap, List.mem_filter]
       exact ⟨e, ⟨by simpa using he, hb⟩, by simp⟩)
      have hnl : e.on ∉ (i :: l) := by
       intro hm
       rcases List.mem_cons.1 hm with e1 | hm
       ·omega
       ·have := List.rel_of_pairwise_cons hsort hm; omega
      have := mt (hmem e.on).2 hnl
      simp only [not_and, Bool.not_eq_false] at this
      exact this (by omega)
    rw [hr] at this
    simp at this
  ·obtain ⟨hi2, oi, hoi, hi3⟩ := mem_ready.1 hi
   have hi1 : i < ops.size := (Array.getElem?_eq_some_iff.1 hoi).1
   have hil : i ∈ l := (hmem i).2 ⟨hi1, by
    have hlt : i < listed.size := by omega
    simpa [hlt] using hi2⟩
   obtain ⟨l1, l2, rfl⟩ := List.append_of_mem hil
   have hready : ∀ o, ops[i]? = some o → ∀ e ∈ o.after, Region.binds .any e = true → listed.getD e.on false = true := by
    intro o ho e he hb
    rw [hoi] at ho; cases ho
    exact hi3 e he hb
   have hfirst : SOp P D I ops i (SOps P D I ops Qn (l1 ++ l2)) a C := by
    refine qgp hoi (fun cs b => hs i oi cs b hoi) l1 l2 (fun x hx => ?_) a C ⟨w, hw⟩ hCI h
    have hxl := (hmem x).1 (by simp [hx])
    have hxi : x < i := (List.pairwise_append.1 hsort).2.2 x hx i (by simp)
    have hnp : x ∉ SL.pres ops ops.size i := fun hp => by
     have := hd.pres ops.size i hready x hp
     rw [hxl.2] at this; cases this
    have hc : commB P D ops x i = true := by
     rcases (hpairs i (hz i hil) hi1).2 x hxi with hc | hc
     ·exact hc
     ·exact absurd hc hnp
    unfold commB at hc
    split at hc
    ·rename_i ox oi' hox hoi'
     rw [hoi] at hoi'; cases hoi'
     simp only [Bool.and_eq_true] at hc
     exact ⟨ox, hox, hc.1, fun cs b => hs x ox cs b hox, hc.2⟩
    ·cases hc
   refine wpOp_mono (fun a w ⟨C, hC, hCI, hn⟩ => ?_) (qh3 hw hCI hfirst)
   have hp := List.pairwise_append.1 hsort
   refine ih (l1 ++ l2) _ a C w (by simp [hsz]) ?_ ?_ (fun j hj => hz j (by rcases List.mem_append.1 hj with hj | hj <;> simp [hj])) ?_ ⟨?_⟩ hC hCI hn
   ·exact List.pairwise_append.2 ⟨hp.1, (List.pairwise_cons.1 hp.2.1).2, fun x hx y hy => hp.2.2 x hx y (by simp [hy])⟩
   ·intro j
    have hj := hmem j
    by_cases e : j = i
    ·subst e
     constructor
     ·intro hm
      exfalso
      rcases List.mem_append.1 hm with hm | hm
      ·have := hp.2.2 j hm j (by simp); omega
      ·have := List.rel_of_pairwise_cons hp.2.1 hm; omega
     ·rintro ⟨hlt, hf⟩
      have hlt' : j < listed.size := by omega
      simp [hlt'] at hf
    ·rw [getD_set_ne _ (fun x => e x.symm), ← hj]
     simp [e]
   ·simp at hlen ⊢; omega
   ·intro j o ho hj e he hb
    by_cases eq : i = j
    ·subst eq; exact getD_set_true (hready o ho e he hb)
    ·rw [getD_set_ne _ eq] at hj
     exact getD_set_true (hd.down j o ho hj e he hb)
theorem qg3 (hok : qi4 P D ops = true) : Region.noSelect ops = true ∧ P.follows .mixedOrders = true ∧ ∀ i, i < ops.size → (∀ x ∈ SL.pres ops ops.size i, x < i) ∧ ∀ x, x < i → commB P D ops x i = true ∨ x ∈ SL.pres ops ops.size i := by
 simp only [qi4, Bool.and_eq_true, List.all_eq_true, List.mem_range, decide_eq_true_eq, Bool.or_eq_true] at hok
 refine ⟨hok.1.1, hok.1.2, fun i hi => ⟨(hok.2 i hi).1, fun x hx => ?_⟩⟩
 rcases (hok.2 i hi).2 x hx with h | h
 ·exact .inl h
 ·exact .inr (by simpa using h)
theorem qq3 (hok : qi4 P D ops = true) {Q : Exit → Act → World → Prop} {Qn : Act → (World → Prop) → Prop} (hQ : ∀ a C w, C w → Qn a C → Q .normal a w)
  (fuel : Nat) (l : List Nat) (listed : Array Bool) (a : Act) (C : World → Prop) (w : World) (h1 : listed.size = ops.size) (h2 : l.Pairwise (· < ·)) (h3 : ∀ i, i ∈ l ↔ i < ops.size ∧ listed.getD i false = false)
   (h4 : l.length ≤ fuel) (h5 : Down ops listed) (h6 : C w) (h7 : ∀ w, C w → I w) (h8 : SOps P D I ops Qn l a C) : wpAny P .any ops Q fuel listed a w :=
 qh4 (z := 0) (qg3 hok).1 (fun i _ hi => (qg3 hok).2.2 i hi) hQ fuel l listed a C w h1 h2 h3 (fun _ _ => Nat.zero_le _) h4 h5 h6 h7 h8
def qkv (P : Program) (D : Dr) (ops : Array Oper) (z : Nat) : Bool :=
 Region.noSelect ops && P.follows .mixedOrders &&
 (List.range ops.size).all fun i =>
  let ps := pres ops ops.size i
  ps.all (· < i) && (List.range i).all fun x => (decide (i < z) && commB P D ops x i) || ps.contains x
theorem qg4 {z : Nat} (hok : qkv P D ops z = true) : Region.noSelect ops = true ∧ P.follows .mixedOrders = true ∧ ∀ i, i < ops.size → (∀ x ∈ SL.pres ops ops.size i, x < i) ∧ ∀ x, x < i → (i < z ∧ commB P D ops x i = true) ∨ x ∈ SL.pres ops ops.size i := by
 simp only [qkv, Bool.and_eq_true, List.all_eq_true, List.mem_range, decide_eq_true_eq, Bool.or_eq_true] at hok
 refine ⟨hok.1.1, hok.1.2, fun i hi => ⟨(hok.2 i hi).1, fun x hx => ?_⟩⟩
 rcases (hok.2 i hi).2 x hx with h | h
 ·exact .inl h
 ·exact .inr (by simpa using h)
theorem qox {D2 : Dr} {z : Nat} (hz : z < ops.size) (hok : qkv P D ops z = true) {Q : Exit → Act → World → Prop} {Qn : Act → (World → Prop) → Prop} (hQ : ∀ a C w, C w → Qn a C → Q .normal a w) :
  ∀ (fuel : Nat) (l : List Nat) (listed : Array Bool) (a : Act) (C : World → Prop) (w : World), listed.size = ops.size → l.Pairwise (· < ·) → (∀ i, i ∈ l ↔ i < z ∧ listed.getD i false = false) → (∀ i, z ≤ i → listed.getD i false = false) →
   l.length + (ops.size - z) ≤ fuel → Down ops listed → C w → (∀ w, C w → I w) → SOps P D I ops (fun a C => SOps P D2 (fun _ => True) ops Qn (List.range' z (ops.size - z)) a C) l a C → wpAny P .any ops Q fuel listed a w := by
 obtain ⟨hsel, hmix, hpairs⟩ := qg4 hok
 have hs : ∀ (j : Nat) (o : Oper) cs b, ops[j]? = some o → o.op ≠ .select cs b := fun j o cs b ho => Region.noSelect_spec hsel j o cs b ho
 intro fuel
 induction fuel with
 | zero => intro l listed a C w _ _ _ _ hlen; omega
 | succ fuel ih =>
  intro l listed a C w hsz hsort hmem hrest hlen hd hw hCI h
  rcases l with _ | ⟨i0, l0⟩
  ·-- the tail
   refine qh4 (z := z) (I := fun _ => True) (D := D2) hsel (fun i hzi hi => ⟨(hpairs i hi).1, fun x hx => by
    rcases (hpairs i hi).2 x hx with h | h
    ·omega
    ·exact .inr h⟩) hQ (fuel + 1) (List.range' z (ops.size - z)) listed a C w hsz List.pairwise_lt_range' (fun i => ?_) (fun i hi => (List.mem_range'_1.1 hi).1) (by simp at hlen ⊢; omega) hd hw (fun _ _ => trivial) h
   rw [List.mem_range'_1]
   constructor
   ·intro hi; exact ⟨by omega, hrest i hi.1⟩
   ·intro hi
    have : z ≤ i := by
     rcases Nat.lt_or_ge i z with q | q
     ·have := (hmem i).2 ⟨q, hi.2⟩; simp at this
     ·exact q
    exact ⟨this, by omega⟩
  ·refine ⟨fun hr => ?_, fun i hi => ?_⟩
   ·exfalso
    have hi := (hmem i0).1 (by simp)
    have hi1 : i0 < ops.size := by omega
    have : i0 ∈ Region.ready .any ops listed := by
     refine mem_ready.2 ⟨?_, ?_⟩
     ·have hlt : i0 < listed.size := by omega
      simpa [hlt] using hi.2
     ·refine ⟨ops[i0]'hi1, by simp [hi1], fun e he hb => ?_⟩
      have hp := (hpairs i0 hi1).1 e.on (by
       have : ops.size = ops.size - 1 + 1 := by omega
       rw [this, SL.pres]
       simp only [Array.getElem?_eq_getElem hi1, List.mem_flatMap, List.mem_filter]
       exact ⟨e, ⟨by simpa using he, hb⟩, by simp⟩)
      have hnl : e.on ∉ (i0 :: l0) := by
       intro hm
       rcases List.mem_cons.1 hm with e1 | hm
       ·omega
       ·have := List.rel_of_pairwise_cons hsort hm; omega
      have := mt (hmem e.on).2 hnl
      simp only [not_and, Bool.not_eq_false] at this
      exact this (by omega)
    rw [hr] at this
    simp at this
   ·obtain ⟨hi2, oi, hoi, hi3⟩ := mem_ready.1 hi
    have hi1 : i < ops.size := (Array.getElem?_eq_some_iff.1 hoi).1
    have hready : ∀ o, ops[i]? = some o → ∀ e ∈ o.after, Region.binds .any e = true → listed.getD e.on false = true := by
     intro o ho e he hb
     rw [hoi] at ho; cases ho
     exact hi3 e he hb
    have hiz : i < z := by
     rcases Nat.lt_or_ge i z with q | q
     ·exact q
     ·exfalso
      have h0 := (hmem i0).1 (by simp)
      have hp : i0 ∈ SL.pres ops ops.size i := by
       rcases (hpairs i hi1).2 i0 (by omega) with h | h
       ·omega
       ·exact h
      have := hd.pres ops.size i hready i0 hp
      rw [h0.2] at this; cases this
    have hil : i ∈ i0 :: l0 := (hmem i).2 ⟨hiz, by
     have hlt : i < listed.size := by omega
     simpa [hlt] using hi2⟩
    generalize hll : i0 :: l0 = l at *
    obtain ⟨l1, l2, rfl⟩ := List.append_of_mem hil
    have hfirst : SOp P D I ops i (SOps P D I ops (fun a C => SOps P D2 (fun _ => True) ops Qn (List.range' z (ops.size - z)) a C) (l1 ++ l2)) a C := by
     refine qgp hoi (fun cs b => hs i oi cs b hoi) l1 l2 (fun x hx => ?_) a C ⟨w, hw⟩ hCI h
     have hxl := (hmem x).1 (by simp [hx])
     have hxi : x < i := (List.pairwise_append.1 hsort).2.2 x hx i (by simp)
     have hnp : x ∉ SL.pres ops ops.size i := fun hp => by
      have := hd.pres ops.size i hready x hp
      rw [hxl.2] at this; cases this
     have hc : commB P D ops x i = true := by
      rcases (hpairs i hi1).2 x hxi with hc | hc
      ·exact hc.2
      ·exact absurd hc hnp
     unfold commB at hc
     split at hc
     ·rename_i ox oi' hox hoi'
      rw [hoi] at hoi'; cases hoi'
      simp only [Bool.and_eq_true] at hc
      exact ⟨ox, hox, hc.1, fun cs b => hs x ox cs b hox, hc.2⟩
     ·cases hc
    refine wpOp_mono (fun a w ⟨C, hC, hCI, hn⟩ => ?_) (qh3 hw hCI hfirst)
    have hp := List.pairwise_append.1 hsort
    refine ih (l1 ++ l2) _ a C w (by simp [hsz]) ?_ ?_ ?_ ?_ ⟨?_⟩ hC hCI hn
    ·exact List.pairwise_append.2 ⟨hp.1, (List.pairwise_cons.1 hp.2.1).2, fun x hx y hy => hp.2.2 x hx y (by simp [hy])⟩
    ·intro j
     have hj := hmem j
     by_cases e : j = i
     ·subst e
      constructor
      ·intro hm
       exfalso
       rcases List.mem_append.1 hm with hm | hm
       ·have := hp.2.2 j hm j (by simp); omega
       ·have := List.rel_of_pairwise_cons hp.2.1 hm; omega
      ·rintro ⟨hlt, hf⟩
       have hlt' : j < listed.size := by omega
       simp [hlt'] at hf
     ·rw [getD_set_ne _ (fun x => e x.symm), ← hj]
      simp [e]
    ·intro j hj
     rw [getD_set_ne _ (by omega)]; exact hrest j hj
    ·simp at hlen ⊢; omega
    ·intro j o ho hj e he hb
     by_cases eq : i = j
     ·subst eq; exact getD_set_true (hready o ho e he hb)
     ·rw [getD_set_ne _ eq] at hj
      exact getD_set_true (hd.down j o ho hj e he hb)
theorem qhi {D2 : Dr} {id z : Nat} (hz : z < ops.size) (hok : qkv P D ops z = true) {Q : Exit → Act → World → Prop} {Qn : Act → (World → Prop) → Prop} (hQ : ∀ a C w, C w → Qn a C → Q .normal a w)
  {a : Act} {C : World → Prop} {w : World} (hw : C w.drew) (hCI : ∀ w, C w → I w)
  (h : SOps P D I ops (fun a C => SOps P D2 (fun _ => True) ops Qn (List.range' z (ops.size - z)) a C) (List.range z) a C) : (Code.region id ops true).wp P Q a w := by
 refine wp_region_any (qg4 hok).2.1 ?_
 refine qox hz hok hQ ops.size (List.range z) (Array.replicate ops.size false) a C _ (by simp) List.pairwise_lt_range (fun i => ?_) (fun i hi => ?_) (by simp; omega) ⟨?_⟩ hw hCI h
 ·simp only [List.mem_range]
  constructor
  ·intro hi
   have : i < ops.size := by omega
   exact ⟨hi, by simp [this]⟩
  ·exact fun hi => hi.1
 ·rcases Nat.lt_or_ge i ops.size with q | q
  ·simp [q]
  ·simp [Array.getD]
 ·intro i o ho hi
  have hlt : i < ops.size := (Array.getElem?_eq_some_iff.1 ho).1
  simp [hlt] at hi
theorem ql7 {id : Nat} (hok : qi4 P D ops = true) {Q : Exit → Act → World → Prop} {Qn : Act → (World → Prop) → Prop} (hQ : ∀ a C w, C w → Qn a C → Q .normal a w)
  {a : Act} {C : World → Prop} {w : World} (hw : C w.drew) (hCI : ∀ w, C w → I w) (h : SOps P D I ops Qn (List.range ops.size) a C) : (Code.region id ops true).wp P Q a w := by
 have hm : P.follows .mixedOrders = true := by
  have := hok
  simp only [qi4, Bool.and_eq_true] at this
  exact this.1.2
 refine wp_region_any hm ?_
 refine qq3 hok hQ ops.size (List.range ops.size) (Array.replicate ops.size false) a C _ (by simp) List.pairwise_lt_range (fun i => ?_) (by simp) ⟨?_⟩ hw hCI h
 ·simp only [List.mem_range]
  constructor
  ·intro hi; exact ⟨hi, by simp [hi]⟩
  ·exact fun hi => hi.1
 ·intro i o ho hi
  have hlt : i < ops.size := (Array.getElem?_eq_some_iff.1 ho).1
  simp [hlt] at hi
end
end Go.SL
