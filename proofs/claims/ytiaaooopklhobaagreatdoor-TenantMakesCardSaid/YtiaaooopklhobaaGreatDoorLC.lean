/- The library: facts about walks, over any program. -/
import Derived.Test.YtiaaooopklhobaaGreatDoorLB
import Derived.Scope
import Derived.Deep.LoopGhost
set_option linter.unusedVariables false
set_option linter.unusedSimpArgs false
set_option linter.unusedSectionVars false
namespace Go.SL
open Go
def qv3 (Γ : World) (Q : Exit → KP) : Exit → Act → World → Prop
 | .normal, a, w => ∃ env K H, a = act env ∧ Q .normal env K H ∧ Sat Γ K H w
 | .ret, a, w => ∃ env K H, a = act env ∧ Q .ret env K H ∧ Sat Γ K H w
 | .exit id, a, w => ∃ env K H, a = act env ∧ Q (.exit id) env K H ∧ Sat Γ K H w
 | _, _, _ => False
structure CodeStep (P : Program) (c : Code) (env : List Value) (K : Hp) (H : List HProp) (Q : Exit → KP) : Prop where ctor ::
 out : ∀ Γ w, Sat Γ K H w → c.wp P (qv3 Γ Q) (act env) w
theorem CodeStep.elim {P : Program} {c : Code} {env : List Value} {K : Hp} {H : List HProp} {Q : Exit → KP} (h : CodeStep P c env K H Q) :
  ∀ Γ w, Sat Γ K H w → c.wp P (qv3 Γ Q) (act env) w := by
 exact h.out
theorem CodeStep.mk {P : Program} {c : Code} {env : List Value} {K : Hp} {H : List HProp} {Q : Exit → KP} (h : ∀ Γ w, Sat Γ K H w → c.wp P (qv3 Γ Q) (act env) w) :
  CodeStep P c env K H Q := by
 exact ⟨h⟩
def qw7 (y : KP) (Q : Exit → KP) : Exit → KP
 | .normal => y
 | .ret => Q .ret
 | .exit id => Q (.exit id)
 | .goto l => Q (.goto l)
 | .panic c => Q (.panic c)
 | .outgrown => Q .outgrown
def qi5 (id : Nat) (Q : Exit → KP) : Exit → KP
 | .normal => Q .normal
 | .exit id' => fun env K H => qdu (id' == id) (Q .normal env K H) (Q (.exit id') env K H)
 | .ret => Q .ret
 | .goto l => Q (.goto l)
 | .panic c => Q (.panic c)
 | .outgrown => Q .outgrown
structure DStep (P : Program) (ops : Array Oper) (env : List Value) (K : Hp) (H : List HProp) (Q : KP) : Prop where ctor ::
 out : ∀ Γ w, Sat Γ K H w → ∀ (id : Nat) (Q' : Exit → Act → World → Prop), (∀ env K H w, Q env K H → Sat Γ K H w → Q' .normal (act env) w) → (Code.region id ops true).wp P Q' (act env) w
def qta : List Oper → Nat → (List Oper → List Oper → Prop) → Prop
 | l, 0, k => k [] l
 | [], _ + 1, k => k [] []
 | o :: l, n + 1, k => qta l n fun a b => k (o :: a) b
theorem ql8 : ∀ (l : List Oper) (n : Nat) (k : List Oper → List Oper → Prop), qta l n k = k (l.take n) (l.drop n)
 | l, 0, k => by simp [qta]
 | [], n + 1, k => by simp [qta]
 | o :: l, n + 1, k => by rw [qta, ql8 l n]; simp
noncomputable def vc (P : Program) : Code → (Exit → KP) → KP
 | .skip, Q => Q .normal
 | .label _, Q => Q .normal
 | .ret, Q => Q .ret
 | .exit id, Q => Q (.exit id)
 | .seq x y, Q => vc P x (qw7 (vc P y Q) Q)
 | .block id c, Q => fun env K H => CodeStep P (.block id c) env K H Q
 | .loop c, Q => fun env K H => CodeStep P (.loop c) env K H Q
 | .cond b x y, Q => fun env K H => evK env b fun vb => match vb with
  | .bool b => qdu b (vc P x Q env K H) (vc P y Q env K H)
  | _ => False
 | .scope c, Q => vc P c Q
 | .region _ ops false, Q => qfq P none ops.toList (Q .normal) ops.toList
 | .region _ ops true, Q => fun env K H => DStep P ops env K H (Q .normal)
 | _, _ => fun _ _ _ => False
def sub (c : Code) (i : Nat) : Code :=
 match c with
 | .seq a b => match i with
  | 0 => a
  | _ => b
 | .cond _ a b => match i with
  | 0 => a
  | _ => b
 | .block _ c => c
 | .loop c => c
 | .scope c => c
 | _ => .skip
def codeAt (root : Code) : List Nat → Code
 | [] => root
 | i :: p => sub (codeAt root p) i
structure CStep (P : Program) (root : Code) (n : Nat) (p : List Nat) (env : List Value) (K : Hp) (H : List HProp) (Q : Exit → KP) : Prop where ctor ::
 out : CodeStep P (codeAt root p) env K H Q
def qoy : List Oper → Bool
 | [] => false
 | o :: l => match o.guard with
  | some _ => true
  | none => qoy l
def qtb (P : Program) (root : Code) (n : Nat) (ih : List Nat → (Exit → KP) → KP) (p : List Nat) (Q : Exit → KP) : KP := fun env K H => match codeAt root p with
 | .skip => Q .normal env K H
 | .label _ => Q .normal env K H
 | .ret => Q .ret env K H
 | .exit id => Q (.exit id) env K H
 | .seq _ _ => ih (0 :: p) (qw7 (ih (1 :: p) Q) Q) env K H
 | .block _ _ => CStep P root n p env K H Q
 | .loop _ => CStep P root n p env K H Q
 | .cond _ _ _ => CStep P root n p env K H Q
 | .scope _ => ih (0 :: p) Q env K H
 | .region _ ops dr => match dr with
  | false => match qoy ops.toList with
   | true => CStep P root n p env K H Q
   | false => qfq P none ops.toList (Q .normal) ops.toList env K H
  | true => DStep P ops env K H (Q .normal)
 | _ => False
noncomputable def qoa (P : Program) (root : Code) (n : Nat) : List Nat → (Exit → KP) → KP := Nat.rec (motive := fun _ => List Nat → (Exit → KP) → KP) (fun _ _ _ _ _ => False) (fun n ih => qtb P root n ih) n
theorem qoz {P : Program} {root : Code} {n : Nat} {p : List Nat} {Q : Exit → KP} : qoa P root (n + 1) p Q = qtb P root n (qoa P root n) p Q := rfl
section
variable {P : Program}
theorem qo0 {o : Oper} {a : Act} {w : World} {K K' : Act → World → Prop} {Q : Exit → Act → World → Prop} (h : ∀ a w, K a w → K' a w)
  (hh : o.wp P a w K (fun _ _ _ => False)) : o.wp P a w K' Q := by
 unfold Oper.wp at *
 generalize (execOp a.eval o).run P w = r at *
 cases r with
 | ok n w' =>
  cases n <;> simp only [Oper.upon] at hh ⊢ <;>
   first
    | exact h _ _ hh
    | exact Calls.mono hh (fun e w'' he => by
      cases e with
      | returned v => exact h _ _ he
      | panicked c => exact he.elim
      | outgrown => obtain ⟨_, _, hf⟩ := he; exact hf.elim)
    | exact Rows.mono hh (fun _ _ he => h _ _ he)
 | halt x w' => cases x <;> simp only [Oper.upon] at hh
theorem qj0 : ∀ (ops : List Oper) (j : Nat), qjz ops j = (ops[j]?).bind (·.dst)
 | [], _ => by simp [qjz]
 | _ :: _, 0 => by simp [qjz]
 | _ :: l, n + 1 => by simp [qjz, qj0 l n]
theorem qi6 {ops : List Oper} {env : List Value} {j d : Nat} {b : Bool} (hd : qjz ops j = some d) (hb : look env d = .bool b) :
  yielded ops.toArray (act env).tmps j = some b := by
 rw [qj0] at hd
 have he : env[d]? = some (.bool b) := by
  rw [qdt, List.getD_eq_getElem?_getD] at hb
  cases h : env[d]? with
  | none => rw [h] at hb; simp [undef] at hb
  | some v => rw [h] at hb; simpa using hb
 simp [yielded, act, hd, he]
theorem qfr {ops : List Oper} {env : List Value} {j d : Nat} {vs : Array Value} (hd : qjz ops j = some d) (hb : look env d = .tuple vs) :
  yielded ops.toArray (act env).tmps j = none := by
 rw [qj0] at hd
 rw [qdt, List.getD_eq_getElem?_getD] at hb
 cases h : env[d]? with
 | none => simp [yielded, act, hd, h]
 | some v => rw [h] at hb; simp only [Option.getD_some] at hb; subst hb; simp [yielded, act, hd, h]
theorem guard_case {dr : Option DrI} {ops : List Oper} {Q : KP} {o : Oper} {rest : List Oper} {env : List Value} {K : Hp} {H : List HProp}
  (h : qfq P dr ops Q (o :: rest) env K H) :
  (Region.wanted o (yielded ops.toArray (act env).tmps) = true ∧ qau P dr o env K H fun v K H => qfq P dr ops Q rest (qlz env o.dst v) K H) ∨
  (Region.wanted o (yielded ops.toArray (act env).tmps) = false ∧ qfq P dr ops Q rest (qlz env o.dst undef) K H) := by
 simp only [qn8, qow, qa9, qew] at h
 split at h
 ·rename_i hg
  exact .inl ⟨by simp [Region.wanted, hg], h⟩
 ·rename_i j want hg
  split at h
  ·rename_i d hd
   split at h
   ·rename_i b hb
    have hy := qi6 hd hb
    cases want
    ·simp only [] at h
     rcases condP_true h with ⟨e, h'⟩ | ⟨e, h'⟩
     ·exact .inr ⟨by simp [Region.wanted, hg, hy, e], h'⟩
     ·exact .inl ⟨by simp [Region.wanted, hg, hy, e], h'⟩
    ·simp only [] at h
     rcases condP_true h with ⟨e, h'⟩ | ⟨e, h'⟩
     ·exact .inl ⟨by simp [Region.wanted, hg, hy, e], h'⟩
     ·exact .inr ⟨by simp [Region.wanted, hg, hy, e], h'⟩
   ·rename_i vs hb
    have hy := qfr hd hb
    exact .inr ⟨by simp [Region.wanted, hg, hy], h⟩
   ·exact h.elim
  ·exact h.elim
theorem qh5 {ops : List Oper} {Qk : Exit → KP} {Γ : World} : ∀ (l : List Oper) (env : List Value) (K : Hp) (H : List HProp) (w : World),
  qfq P none ops (Qk .normal) l env K H → Sat Γ K H w → wpList P ops.toArray (qv3 Γ Qk) l (act env) w
 | [], env, K, H, w, h, s => ⟨env, K, H, rfl, h, s⟩
 | o :: rest, env, K, H, w, h, s => by
  unfold wpList
  rcases guard_case h with ⟨hw, h⟩ | ⟨hw, h⟩
  ·rw [qx2 hw]
   left
   refine qo0 ?_ (qqz h s)
   rintro a w' ⟨v, K', H', rfl, s', h'⟩
   exact qh5 rest _ K' H' w' h' s'
  ·rw [qx1 (by rw [hw]; simp)]
   rw [qcb]
   exact qh5 rest _ K H w h s
theorem qi7 {o : Oper} {env : List Value} {op : BinOp} {t : TypeId} {x y : Operand} {yt : TypeId} (ho : o.op = .binOp op t x y yt) {c : Value → Prop}
  (h : qjy P op t x y (ev env x) (ev env y) c) : ∃ v, (∀ w, (execOp (ev env) o).run P w = .ok (.value v) w) ∧ c v := by
 obtain ⟨v, h1, h2⟩ := qkt h
 refine ⟨v, fun w => ?_, h2⟩
 have := h1 w
 simp only [execOp, ho]
 exact this
theorem qo1 {d : DrI} {o : Oper} {env : List Value} {K : Hp} {H : List HProp} {c : VP} (h : qau P (some d) o env K H c) :
    match clsOf P d.toDr o.op with
    | .n => ∃ v, (∀ w, d.I w → (execOp (ev env) o).run P w = .ok (.value v) w) ∧ c v K H
    | .r => ∃ v, (∀ Γ w, Sat Γ K H w → (execOp (ev env) o).run P w = .ok (.value v) w ∨ ∃ f args, (execOp (ev env) o).run P w = .ok (.enter f args) w ∧ Calls P f args w fun e w' => e = .returned v ∧ Sat Γ K H w') ∧ c v K H
    | .w => True := by
  obtain ⟨dst, op, type, pos, after, guard⟩ := o
  cases op
  case move x =>
    simp only [qau, qa5] at h
    exact ⟨_, fun w _ => by simp [execOp], h⟩
  case assign x =>
    simp only [qau, qa5] at h
    exact ⟨_, fun w _ => by simp [execOp], h⟩
  case pick b x y =>
    simp only [qau, qa5] at h
    split at h
    · rename_i vb b' hb
      rcases condP_true h with ⟨e, h'⟩ | ⟨e, h'⟩
      · exact ⟨ev env x, fun w _ => by simp [execOp, hb, asBool, e], h'⟩
      · exact ⟨ev env y, fun w _ => by simp [execOp, hb, asBool, e], h'⟩
    · exact h.elim
  case binOp op t x y yt =>
    simp only [qau, qa5] at h
    obtain ⟨v, h1, h2⟩ := qi7 (o := ⟨dst, .binOp op t x y yt, type, pos, after, guard⟩) rfl h
    exact ⟨v, fun w _ => h1 w, h2⟩
  case convert src dd x =>
    simp only [qau, qa5] at h
    split at h
    · rename_i e1 e2; simp only [clsOf, e1, e2]; obtain ⟨v, h1, h2⟩ := h.elim; exact ⟨v, fun w _ => h1 w, h2⟩
    · rename_i e1 e2; simp only [clsOf, e1, e2]; obtain ⟨v, h1, h2⟩ := h.elim; exact ⟨v, fun Γ w s => .inl (h1 Γ w s), h2⟩
    · rename_i e1 e2; simp only [clsOf, e1, e2]; obtain ⟨v, h1, h2⟩ := h.elim; exact ⟨v, fun w _ => h1 w, h2⟩
    · have hw : clsOf P d.toDr (.convert src dd x) = .w := by simp only [clsOf]
      rw [hw]
      trivial
  case extract x i =>
    simp only [qau, qa5] at h
    split at h
    · rename_i vs hv
      obtain ⟨v, hg, h⟩ := qfp h
      have hg : vs[i]? = some v := by simpa using hg
      exact ⟨v, fun w _ => by simp [execOp, hv, Instr.extract, hg], h⟩
    · exact h.elim
  case build t parts =>
    simp only [qau, qfc] at h
    obtain ⟨v, h1, h2⟩ := h.elim
    exact ⟨v, fun w _ => by have := h1 w; simp only [execOp, qnd]; exact this, h2⟩
  case makeFunc =>
    simp only [qau, qdp] at h
    obtain ⟨v, h1, h2⟩ := h.elim
    exact ⟨v, fun w _ => by have := h1 w; simp only [execOp, qnd]; exact this, h2⟩
  case load t a =>
    simp only [qau, qa5] at h
    split at h
    · rename_i hl
      simp only [clsOf, hl, if_true]
      obtain ⟨v, h1, h2⟩ := h.elim
      exact ⟨v, fun Γ w s => .inl (h1 Γ w s), h2⟩
    · rename_i hl
      simp only [clsOf, hl, Bool.false_eq_true, if_false]
      obtain ⟨v, h1, h2⟩ := h.elim
      exact ⟨v, fun w hi => h1 w hi, h2⟩
  case call cc =>
    obtain ⟨callee, args, argTypes⟩ := cc
    cases callee with
    | value f =>
      refine qd2 h fun g vs he hq => ?_
      rcases hq with ⟨rfl, hq, hs⟩ | ⟨hq, hs⟩
      · simp only [clsOf, hq, if_true]
        obtain ⟨h1, v, h2, h3⟩ := hs.elim
        exact ⟨v, fun Γ w s => .inr ⟨g, vs.toArray, by rw [he, h1], h2 Γ w s⟩, h3⟩
      · have hw : clsOf P d.toDr (.call { callee := .value f, args, argTypes }) = .w := by
          cases f with
          | func g' => have := hq g' rfl; simp only [clsOf, this, Bool.false_eq_true, if_false]
          | _ => rfl
        rw [hw]
        trivial
    | invoke r n => trivial
    | builtin b =>
      simp only [qau, qdp] at h
      have he : execOp (ev env) ⟨dst, .call { callee := .builtin b, args, argTypes }, type, pos, after, guard⟩ = M.sem (.builtin b argTypes type (args.map fun | .const _ => true | _ => false) (args.toList.map (ev env))) := by
        simp only [execOp, resolve, M.sem]
        show Go.builtin b argTypes type _ (args.map (ev env)) = _
        rw [qnd (ev env)]; rfl
      cases b
      case len =>
        simp only [clsOf]
        cases hl : lenN P argTypes
        · simp only [hl] at h
          obtain ⟨v, h1, h2⟩ := h.elim
          exact ⟨v, fun Γ w s => .inl (by rw [he]; exact h1 Γ w s), h2⟩
        · simp only [hl] at h
          obtain ⟨v, h1, h2⟩ := h.elim
          exact ⟨v, fun w _ => by rw [he]; exact h1 w, h2⟩
      all_goals simp only [clsOf]
      all_goals first
        | trivial
        | (obtain ⟨v, h1, h2⟩ := h.elim
           exact ⟨v, fun Γ w s => .inl (by rw [he]; exact h1 Γ w s), h2⟩)
        | (obtain ⟨v, h1, h2⟩ := h.elim
           exact ⟨v, fun w _ => by rw [he]; exact h1 w, h2⟩)
  all_goals first
    | trivial
    | (simp only [qau, qa5, qh1] at h
       obtain ⟨v, h1, h2⟩ := h.elim
       first
       | exact ⟨v, fun w _ => h1 w, h2⟩
       | exact ⟨v, fun Γ w s => .inl (h1 Γ w s), h2⟩)
theorem qw8 {d : DrI} {o : Oper} {env : List Value} {K : Hp} {H : List HProp} {c : VP} {Γ : World} {w : World} (hc : clsOf P d.toDr o.op = .w) (h : qau P (some d) o env K H c) (s : Sat Γ K H w) :
  o.wp P (act env) w (ql4 Γ env o fun v K H => d.Keep K H ∧ c v K H) (fun _ _ _ => False) := by
 obtain ⟨dst, op, type, pos, after, guard⟩ := o
 cases op
 case convert src dd x =>
  simp only [qau, qa5] at h
  split at h
  ·rename_i e1 e2; simp [clsOf, e1, e2] at hc
  ·rename_i e1 e2; simp [clsOf, e1, e2] at hc
  ·rename_i e1 e2; simp [clsOf, e1, e2] at hc
  ·exact qbg (by rfl) h s
 case load => simp only [clsOf] at hc; split at hc <;> cases hc
 case store => simp only [qau, qa5] at h; exact qbg (by rfl) h s
 case alloc => simp only [qau] at h; exact qbg (by rfl) h s
 case box => simp only [qau, qa5] at h; exact qbg (by rfl) h s
 case buildSlice => simp only [qau, qfc] at h; exact qbg (by simp only [execOp, M.sem, qnd]) h s
 case makeMap => simp only [qau, qh1] at h; exact qbg (by rfl) h s
 case makeSlice => simp only [qau, qa5] at h; exact qbg (by rfl) h s
 case mapUpdate => simp only [qau, qa5] at h; exact qbg (by rfl) h s
 case insert => simp only [qau, qa5] at h; exact qbg (by rfl) h s
 case mapEntry => simp only [qau, qa5] at h; exact qbg (by rfl) h s
 case entryStore => simp only [qau, qa5] at h; exact qbg (by rfl) h s
 case range => simp only [qau, qa5] at h; exact qbg (by rfl) h s
 case next => simp only [qau, qa5] at h; exact qbg (by rfl) h s
 case call cc =>
  obtain ⟨callee, args, argTypes⟩ := cc
  cases callee with
  | value f =>
   refine qd2 h fun g vs he hq => ?_
   rcases hq with ⟨rfl, hq, hs⟩ | ⟨hq, hs⟩
   ·simp only [clsOf, hq, if_true] at hc; cases hc
   ·exact qi3 he hs s
  | invoke r n => exact h.elim
  | builtin b =>
   simp only [qau, qdp] at h
   have he : execOp (ev env) ⟨dst, .call { callee := .builtin b, args, argTypes }, type, pos, after, guard⟩ = M.sem (.builtin b argTypes type (args.map fun | .const _ => true | _ => false) (args.toList.map (ev env))) := by
    simp only [execOp, resolve, M.sem]
    show Go.builtin b argTypes type _ (args.map (ev env)) = _
    rw [qnd (ev env)]; rfl
   cases b <;> first
    | (simp only [clsOf] at hc; cases hc; done)
    | (simp only [clsOf] at hc; split at hc <;> cases hc; done)
    | exact qbg he h s
 all_goals first
  | exact h.elim
  | (cases hc; done)
def Qd (Γ : World) (Qk : KP) (a : Act) (C : World → Prop) : Prop := ∃ env K H, a = act env ∧ C = Sat Γ K H ∧ Qk env K H
theorem qch {d : DrI} {ops : List Oper} {Qk : KP} {Γ : World} : ∀ (l : List Oper) (k : Nat) (env : List Value) (K : Hp) (H : List HProp), (∀ j, j < l.length → l[j]? = ops[k + j]?) →
  qfq P (some d) ops Qk l env K H → SOps P d.toDr d.I ops.toArray (Qd Γ Qk) (List.range' k l.length) (act env) (Sat Γ K H)
 | [], k, env, K, H, _, h => ⟨env, K, H, rfl, rfl, h⟩
 | o :: rest, k, env, K, H, hk, h => by
  have h0 : ops.toArray[k]? = some o := by simpa using (hk 0 (by simp)).symm
  have hrest : ∀ j, j < rest.length → rest[j]? = ops[k + 1 + j]? := fun j hj => by
   have := hk (j + 1) (by simp; omega)
   simpa [Nat.add_assoc, Nat.add_comm 1 j] using this
  simp only [List.length_cons, List.range'_succ, SOps]
  unfold SOp
  simp only [h0]
  rcases guard_case h with ⟨hw, h⟩ | ⟨hw, h⟩
  ·rw [qx2 hw]
   have hs := qo1 h
   cases hc : clsOf P d.toDr o.op with
   | n =>
    simp only [hc] at hs ⊢
    obtain ⟨v, h1, h2⟩ := hs
    exact ⟨v, fun w hi => by rw [qcf]; exact h1 w hi, by rw [qcb]; exact qch rest (k + 1) _ K H hrest h2⟩
   | r =>
    simp only [hc] at hs ⊢
    obtain ⟨v, h1, h2⟩ := hs
    exact ⟨v, fun w hw => by rw [qcf]; exact h1 Γ w hw, by rw [qcb]; exact qch rest (k + 1) _ K H hrest h2⟩
   | w =>
    simp only []
    intro w hw'
    refine Oper.wp_mono ?_ (qw8 hc h hw')
    rintro a w' ⟨v, K', H', rfl, s', hk', h'⟩
    exact ⟨v, Sat Γ K' H', by rw [qcb], s', fun w'' s'' => hk'.inv s'', qch rest (k + 1) _ K' H' hrest h'⟩
  ·rw [qx1 (by rw [hw]; simp)]
   rw [qcb]
   exact qch rest (k + 1) _ K H hrest h
theorem qba {ops : Array Oper} {env : List Value} {K : Hp} {H : List HProp} {Q : KP} (d : DrI) (hok : qi4 P d.toDr ops = true) (hk : d.Keep K H) (hv : qfq P (some d) ops.toList Q ops.toList env K H) : DStep P ops env K H Q := by
 refine ⟨fun Γ w s id Q' hQ => ql7 (C := Sat Γ K H) (I := d.I) (Qn := Qd Γ Q) hok ?_ s.drew (fun w' s' => hk.inv s') ?_⟩
 ·rintro a C w hw ⟨env', K', H', rfl, rfl, hq⟩
  exact hQ env' K' H' w hq hw
 ·have := qch (P := P) (Γ := Γ) (Qk := Q) (ops := ops.toList) ops.toList 0 env K H (fun j _ => by simp) hv
  simpa [List.range_eq_range'] using this
theorem SOps_weak {D D' : Dr} {I I' : World → Prop} {ops : Array Oper} {Q Q' : Act → (World → Prop) → Prop} (h : ∀ a C, Q a C → Q' a C) (hI : I = I') (hD : D = D') : ∀ {l : List Nat} {a : Act} {C : World → Prop}, SOps P D I ops Q l a C → SOps P D' I' ops Q' l a C
 | [], a, C, hh => h _ _ hh
 | i :: l, a, C, hh => by
  subst hI hD
  unfold SOps at hh ⊢
  unfold SOp at hh ⊢
  split
  ·rename_i ho; simp only [ho] at hh; exact SOps_weak h rfl rfl hh
  ·rename_i o ho
   simp only [ho] at hh
   split
   ·rename_i hw
    simp only [hw, if_true] at hh
    cases hc : clsOf P D o.op with
    | n => simp only [hc] at hh ⊢; exact let ⟨v, h1, h2⟩ := hh; ⟨v, h1, SOps_weak h rfl rfl h2⟩
    | r => simp only [hc] at hh ⊢; exact let ⟨v, h1, h2⟩ := hh; ⟨v, h1, SOps_weak h rfl rfl h2⟩
    | w =>
     simp only [hc] at hh ⊢
     exact fun w hw' => Oper.wp_mono (fun a' w' ⟨v, C', e, c, ci, n⟩ => ⟨v, C', e, c, ci, SOps_weak h rfl rfl n⟩) (hh w hw')
   ·rename_i hw; rw [qx1 hw] at hh; exact SOps_weak h rfl rfl hh
theorem qa6 {ops : Array Oper} {env : List Value} {K : Hp} {H : List HProp} {Q : KP} (d : DrI) (z : Nat) (hz : Nat.blt z ops.size = true) (hok : qkv P d.toDr ops z = true) (hk : d.Keep K H)
  (hv : qta ops.toList z fun l1 l2 => qfq P (some d) ops.toList (qfq P (some ⟨⟨[], true⟩, fun _ => none, [], []⟩) ops.toList Q l2) l1 env K H) : DStep P ops env K H Q := by
 rw [ql8] at hv
 have hz' : z < ops.size := by simpa [Nat.blt_eq] using hz
 refine ⟨fun Γ w s id Q' hQ => qhi (D2 := ⟨[], true⟩) (C := Sat Γ K H) (I := d.I) (Qn := Qd Γ Q) hz' hok ?_ s.drew (fun w' s' => hk.inv s') ?_⟩
 ·rintro a C w hw ⟨env', K', H', rfl, rfl, hq⟩
  exact hQ env' K' H' w hq hw
 ·have h1 := qch (P := P) (Γ := Γ) (ops := ops.toList) (ops.toList.take z) 0 env K H (fun j hj => by rw [List.length_take] at hj; rw [List.getElem?_take, qx2 (by omega), Nat.zero_add]) hv
  have hl : (ops.toList.take z).length = z := by simp; omega
  rw [hl] at h1
  rw [List.range_eq_range']
  simp only [Array.toArray_toList] at h1
  refine SOps_weak (fun a C hq => ?_) rfl rfl h1
  obtain ⟨env', K', H', rfl, rfl, hq⟩ := hq
  have h2 := qch (P := P) (Γ := Γ) (ops := ops.toList) (Qk := Q) (ops.toList.drop z) z env' K' H' (fun j hj => by simp) hq
  have hl2 : (ops.toList.drop z).length = ops.size - z := by simp
  rw [hl2] at h2
  simp only [Array.toArray_toList] at h2
  exact SOps_weak (fun _ _ h => h) (funext fun w => propext ⟨fun _ => trivial, fun _ => ⟨fun i o h => (by cases h), fun p hp => (by cases hp), fun p hp => (by cases hp)⟩⟩) rfl h2
theorem DrI.Keep.more {d : DrI} {K : Hp} {H : List HProp} {A : HProp} (h : d.Keep K H) : d.Keep K (A :: H) :=
 ⟨h.1, fun x y => h.2.1 x (let ⟨_, _, _, _, l2, _, r⟩ := y; SepL.mono l2 r), fun Γ K' w s q hq => h.2.2 Γ K' w s.drop q hq⟩
theorem vc_sound : ∀ (c : Code) (Q : Exit → KP) (env : List Value) (K : Hp) (H : List HProp), vc P c Q env K H → CodeStep P c env K H Q
 | .skip, Q, env, K, H, h => CodeStep.mk fun Γ w s => wp_skip ⟨env, K, H, rfl, h, s⟩
 | .label _, Q, env, K, H, h => CodeStep.mk fun Γ w s => wp_label ⟨env, K, H, rfl, h, s⟩
 | .ret, Q, env, K, H, h => CodeStep.mk fun Γ w s => wp_ret ⟨env, K, H, rfl, h, s⟩
 | .exit id, Q, env, K, H, h => CodeStep.mk fun Γ w s => wp_exit ⟨env, K, H, rfl, h, s⟩
 | .seq x y, Q, env, K, H, h => CodeStep.mk fun Γ w s => by
  refine wp_seq (wp_mono ((vc_sound x _ env K H h).elim Γ w s) fun e a w hq => ?_)
  cases e with
  | normal =>
   obtain ⟨env', K', H', rfl, hy, s'⟩ := hq
   exact (vc_sound y Q env' K' H' hy).elim Γ w s'
  | _ => exact hq
 | .block id c, Q, env, K, H, h => h
 | .loop c, Q, env, K, H, h => h
 | .cond b x y, Q, env, K, H, h => CodeStep.mk fun Γ w s => by
  simp only [vc, qa5] at h
  split at h
  ·rename_i b' hb
   refine wp_cond (t := b') (by rw [qcf]; exact hb) ?_
   rcases condP_true h with ⟨e, h'⟩ | ⟨e, h'⟩
   ·rw [e]; exact (vc_sound x Q env K H h').elim Γ w s
   ·rw [e]; exact (vc_sound y Q env K H h').elim Γ w s
  ·exact h.elim
 | .scope c, Q, env, K, H, h => CodeStep.mk fun Γ w s => by
  refine wp_scope_straight (wp_mono ((vc_sound c Q env K H h).elim Γ w s) fun e a w hq => ?_)
  cases e with
  | goto l => exact hq.elim
  | _ => exact hq
 | .region id ops false, Q, env, K, H, h => CodeStep.mk fun Γ w s => wp_region_list (qh5 ops.toList env K H w h s)
 | .region id ops true, Q, env, K, H, h => CodeStep.mk fun Γ w s => by
  exact h.out Γ w s _ _ fun env' K' H' w hq s' => ⟨env', K', H', rfl, hq, s'⟩
 | .rangeFunc .., _, _, _, _, h => h.elim
 | .goto _, _, _, _, _, h => h.elim
 | .refuse _, _, _, _, _, h => h.elim
theorem qb7 (root : Code) : ∀ (n : Nat) (p : List Nat) (Q : Exit → KP) (env : List Value) (K : Hp) (H : List HProp), qoa P root n p Q env K H → CodeStep P (codeAt root p) env K H Q
 | 0, _, _, _, _, _, h => h.elim
 | n + 1, p, Q, env, K, H, h => by
  rw [qoz] at h; unfold qtb at h
  have key : ∀ c, codeAt root p = c → CodeStep P c env K H Q → CodeStep P (codeAt root p) env K H Q := fun c e h => by rw [e]; exact h
  split at h
  ·rename_i e; exact key _ e (vc_sound _ Q env K H h)
  ·rename_i e; exact key _ e (vc_sound _ Q env K H h)
  ·rename_i e; exact key _ e (vc_sound _ Q env K H h)
  ·rename_i e; exact key _ e (vc_sound _ Q env K H h)
  ·rename_i x y e
   refine key _ e (CodeStep.mk fun Γ w s => ?_)
   have e0 : codeAt root (0 :: p) = x := by simp [codeAt, e, sub]
   have e1 : codeAt root (1 :: p) = y := by simp [codeAt, e, sub]
   have h0 := qb7 root n (0 :: p) _ env K H h
   rw [e0] at h0
   refine wp_seq (wp_mono (h0.elim Γ w s) fun e a w hq => ?_)
   cases e with
   | normal =>
    obtain ⟨env', K', H', rfl, hy, s'⟩ := hq
    have h1 := qb7 root n (1 :: p) Q env' K' H' hy
    rw [e1] at h1
    exact h1.elim Γ w s'
   | _ => exact hq
  ·exact h.out
  ·exact h.out
  ·exact h.out
  ·rename_i x e
   have e0 : codeAt root (0 :: p) = x := by simp [codeAt, e, sub]
   have h0 := qb7 root n (0 :: p) Q env K H h
   rw [e0] at h0
   refine key _ e (CodeStep.mk fun Γ w s => wp_scope_straight (wp_mono (h0.elim Γ w s) fun e a w hq => ?_))
   cases e with
   | goto l => exact hq.elim
   | _ => exact hq
  ·rename_i id ops dr e
   split at h
   ·split at h
    ·exact h.out
    ·exact key _ e (vc_sound _ Q env K H h)
   ·exact key _ e (vc_sound _ Q env K H h)
  ·exact h.elim
def qgq : Code → Option Nat
 | .block id _ => some id
 | _ => none
def qi8 : Code → Bool
 | .loop _ => true
 | _ => false
def qo3 : Code → Option Operand
 | .cond b _ _ => some b
 | _ => none
theorem qac {root : Code} {n : Nat} {p : List Nat} {b : Operand} {env : List Value} {K : Hp} {H : List HProp} {Q : Exit → KP} (hc : qo3 (codeAt root p) = some b)
  (h : evK env b fun vb => match vb with
   | .bool b => qdu b (qoa P root n (0 :: p) Q env K H) (qoa P root n (1 :: p) Q env K H)
   | _ => False) : CStep P root n p env K H Q := by
 obtain ⟨x, y, e⟩ : ∃ x y, codeAt root p = .cond b x y := by
  cases hx : codeAt root p <;> simp [hx, qo3] at hc
  subst hc; exact ⟨_, _, rfl⟩
 have key : ∀ c, codeAt root p = c → CodeStep P c env K H Q → CodeStep P (codeAt root p) env K H Q := fun c e h => by rw [e]; exact h
 have e0 : codeAt root (0 :: p) = x := by simp [codeAt, e, sub]
 have e1 : codeAt root (1 :: p) = y := by simp [codeAt, e, sub]
 refine ⟨key _ e (CodeStep.mk fun Γ w s => ?_)⟩
 simp only [qa5] at h
 split at h
 ·rename_i b' hb
  refine wp_cond (t := b') (by rw [qcf]; exact hb) ?_
  rcases condP_true h with ⟨eb, h'⟩ | ⟨eb, h'⟩
  ·have h0 := qb7 root n (0 :: p) Q env K H h'
   rw [e0] at h0
   rw [eb]; exact h0.elim Γ w s
  ·have h1 := qb7 root n (1 :: p) Q env K H h'
   rw [e1] at h1
   rw [eb]; exact h1.elim Γ w s
 ·exact h.elim
def qtc : Code → Option (List Oper)
 | .region _ ops false => some ops.toList
 | _ => none
theorem qaj {root : Code} {n : Nat} {p : List Nat} {ops : List Oper} {env : List Value} {K : Hp} {H : List HProp} {Q : Exit → KP} (hc : qtc (codeAt root p) = some ops)
  (h : qfq P none ops (Q .normal) ops env K H) : CStep P root n p env K H Q := by
 obtain ⟨id, os, e, rfl⟩ : ∃ id os, codeAt root p = .region id os false ∧ os.toList = ops := by
  cases hx : codeAt root p with
  | region id os dr => cases dr <;> simp [hx, qtc] at hc; subst hc; exact ⟨_, _, rfl, rfl⟩
  | _ => simp [hx, qtc] at hc
 refine ⟨?_⟩
 rw [e]
 exact vc_sound _ Q env K H h
theorem qam {root : Code} {n : Nat} {p : List Nat} {id : Nat} {env : List Value} {K : Hp} {H : List HProp} {Q : Exit → KP} (hc : qgq (codeAt root p) = some id) (h : qoa P root n (0 :: p) (qi5 id Q) env K H) : CStep P root n p env K H Q := by
 refine ⟨CodeStep.mk fun Γ w s => ?_⟩
 obtain ⟨c, e⟩ : ∃ c, codeAt root p = .block id c := by
  cases hx : codeAt root p <;> simp [hx, qgq] at hc
  subst hc; exact ⟨_, rfl⟩
 have e0 : codeAt root (0 :: p) = c := by simp [codeAt, e, sub]
 have h0 := qb7 root n (0 :: p) _ env K H h
 rw [e0] at h0
 rw [e]
 refine wp_block (wp_mono (h0.elim Γ w s) fun e a w hq => ?_)
 cases e with
 | exit id' =>
  obtain ⟨env', K', H', rfl, hq, s'⟩ := hq
  simp only [qi5] at hq
  simp only [Exit.inBlock]
  split
  ·rename_i e; subst e
   rcases condP_true hq with ⟨_, hq⟩ | ⟨e, _⟩
   ·exact ⟨env', K', H', rfl, hq, s'⟩
   ·simp at e
  ·rename_i e
   rcases condP_true hq with ⟨e', _⟩ | ⟨_, hq⟩
   ·exact absurd (by simpa using e') e
   ·exact ⟨env', K', H', rfl, hq, s'⟩
 | normal => exact hq
 | ret => exact hq
 | goto l => exact hq.elim
 | panic c => exact hq.elim
 | outgrown => exact hq.elim
def qun : List (Nat × Value) → List Value → List Value
 | [], env => env
 | (t, v) :: l, env => qun l (upd env t v)
def qbr : List (Nat × Value) → List Value → Prop
 | [], _ => True
 | (t, v) :: l, env => look env t = v ∧ qbr l env
def qc7 (j : Nat → Value) : List Nat → List Value → List Value
 | [], env => env
 | t :: l, env => qc7 j l (upd env t (j t))
def qne : List (Nat × Value) → List Value → (List Value → Prop) → Prop
 | [], env, k => qbx env k
 | (t, v) :: l, env, k => qbx (upd env t v) fun env => qne l env k
def qfs (j : Nat → Value) : List Nat → List Value → (List Value → Prop) → Prop
 | [], env, k => qbx env k
 | t :: l, env, k => qbx (upd env t (j t)) fun env => qfs j l env k
theorem qh6 : ∀ (l : List (Nat × Value)) (env : List Value) (k : List Value → Prop), qne l env k = k (qun l env)
 | [], env, k => by simp [qne, qun, qa9]
 | (t, v) :: l, env, k => by simp [qne, qun, qa9, qh6 l]
theorem qft (j : Nat → Value) : ∀ (ws : List Nat) (env : List Value) (k : List Value → Prop), qfs j ws env k = k (qc7 j ws env)
 | [], env, k => by simp [qfs, qc7, qa9]
 | t :: l, env, k => by simp [qfs, qc7, qa9, qft j l]
def qfe (ws : List Nat) : Nat → List Value → List Value → Prop
 | _, [], [] => True
 | i, a :: as, b :: bs => match ws.contains i with
  | true => qfe ws (i + 1) as bs
  | false => a = b ∧ qfe ws (i + 1) as bs
 | _, _, _ => False
theorem qj1 : ∀ (env : List Value) (t s : Nat) (v : Value), look (upd env t v) s = if s = t ∧ t < env.length then v else look env s
 | [], t, s, v => by simp [upd]
 | x :: env, 0, 0, v => by simp [upd, look]
 | x :: env, 0, s + 1, v => by simp [upd, look]
 | x :: env, t + 1, 0, v => by simp [upd, look]
 | x :: env, t + 1, s + 1, v => by simp [upd, look, qj1 env t s v]
theorem qex : ∀ (env : List Value) (t : Nat) (v : Value), (upd env t v).length = env.length
 | [], _, _ => rfl
 | _ :: _, 0, _ => rfl
 | _ :: l, t + 1, v => by simp [upd, qex l t v]
theorem qfu : ∀ (a b : List Value), a.length = b.length → (∀ t, look a t = look b t) → a = b
 | [], [], _, _ => rfl
 | [], _ :: _, h, _ => by simp at h
 | _ :: _, [], h, _ => by simp at h
 | x :: a, y :: b, h, k => by
  have h0 := k 0
  simp only [look] at h0
  rw [h0, qfu a b (by simpa using h) (fun t => by have := k (t + 1); simpa [look] using this)]
theorem qfv : ∀ (env : List Value) (t : Nat), env.length ≤ t → look env t = undef
 | [], _, _ => rfl
 | _ :: l, 0, h => by simp at h
 | _ :: l, t + 1, h => by simp only [look]; exact qfv l t (by simpa using h)
theorem qq4 (env : List Value) (t : Nat) : upd env t (look env t) = env := by
 refine qfu _ _ (qex _ _ _) fun s => ?_
 rw [qj1]
 split
 ·rename_i h; rw [h.1]
 ·rfl
theorem qeh : ∀ (l : List (Nat × Value)) (env : List Value), qbr l env → qun l env = env
 | [], _, _ => rfl
 | (t, v) :: l, env, ⟨h1, h2⟩ => by
  simp only [qun]
  rw [← h1, qq4]
  exact qeh l env h2
theorem qcx (j : Nat → Value) : ∀ (ws : List Nat) (env : List Value), (qc7 j ws env).length = env.length
 | [], _ => rfl
 | t :: l, env => by simp [qc7, qcx j l, qex]
theorem qcs (j : Nat → Value) : ∀ (ws : List Nat) (env : List Value) (s : Nat), look (qc7 j ws env) s = if s ∈ ws ∧ s < env.length then j s else look env s
 | [], env, s => by simp [qc7]
 | t :: l, env, s => by
  rw [qc7, qcs j l, qj1, qex]
  by_cases h1 : s ∈ l <;> by_cases h2 : s = t <;> by_cases h3 : s < env.length <;> simp_all
theorem qey {ws : List Nat} {env env' : List Value} (hb : qc7 (fun _ => undef) ws env' = qc7 (fun _ => undef) ws env) : qc7 (look env') ws env = env' := by
 have hl : env'.length = env.length := by
  have := congrArg List.length hb
  simpa [qcx] using this
 refine qfu _ _ (by rw [qcx, hl]) fun s => ?_
 rw [qcs]
 split
 ·rfl
 ·rename_i hs
  have := congrArg (fun e => look e s) hb
  simp only [qcs, hl] at this
  rw [qx1 hs, qx1 hs] at this
  exact this.symm
theorem qei {ws : List Nat} : ∀ (i : Nat) (a b : List Value), qfe ws i a b → a.length = b.length ∧ ∀ t, i + t ∉ ws → look a t = look b t
 | _, [], [], _ => ⟨rfl, fun _ _ => rfl⟩
 | i, x :: as, y :: bs, h => by
  simp only [qfe] at h
  split at h
  ·rename_i hc
   obtain ⟨h1, h2⟩ := qei (i + 1) as bs h
   refine ⟨by simp [h1], fun t ht => ?_⟩
   cases t with
   | zero => exact absurd (by simpa using hc) ht
   | succ t => exact h2 t (by rw [Nat.add_right_comm]; exact ht)
  ·obtain ⟨h1, h2⟩ := qei (i + 1) as bs h.2
   refine ⟨by simp [h1], fun t ht => ?_⟩
   cases t with
   | zero => exact h.1
   | succ t => exact h2 t (by rw [Nat.add_right_comm]; exact ht)
 | _, [], _ :: _, h => h.elim
 | _, _ :: _, [], h => h.elim
theorem qg5 {ws : List Nat} {a b : List Value} (h : qfe ws 0 a b) : qc7 (fun _ => undef) ws a = qc7 (fun _ => undef) ws b := by
 obtain ⟨h1, h2⟩ := qei 0 a b h
 refine qfu _ _ (by simp [qcx, h1]) fun t => ?_
 rw [qcs, qcs, h1]
 split
 ·rfl
 ·rename_i hn
  by_cases hm : t ∈ ws
  ·have hb : b.length ≤ t := Classical.byContradiction fun e => hn ⟨hm, by omega⟩
   rw [qfv a t (by omega), qfv b t hb]
  ·exact h2 t (by rw [Nat.zero_add]; exact hm)
structure RoundStep {σ : Type} (ws : List Nat) (sl : σ → List (Nat × Value)) (Hf : σ → List HProp) (C : σ → Hp → Prop) (μ : σ → Nat) (env0 : List Value) (K0 : Hp) (m : Nat) (env : List Value) (K : Hp) (H : List HProp) : Prop where ctor ::
 out : ∀ Γ w, Sat Γ K H w → ∃ s K', μ s < m ∧ C s K' ∧ K0.Le K' ∧ qbr (sl s) env ∧ qc7 (fun _ => undef) ws env = qc7 (fun _ => undef) ws env0 ∧ Sat Γ K' (Hf s) w
theorem RoundStep.mk {σ : Type} {ws : List Nat} {sl : σ → List (Nat × Value)} {Hf : σ → List HProp} {C : σ → Hp → Prop} {μ : σ → Nat} {env0 : List Value} {K0 : Hp} {m : Nat}
  {env : List Value} {K : Hp} {H : List HProp} (s : σ) (h1 : qbr (sl s) env) (h2 : qfe ws 0 env env0) (h3 : ConvH H (Hf s))
  (h4 : K0.Le K) (h5 : μ s < m) (h6 : C s K) : RoundStep ws sl Hf C μ env0 K0 m env K H := by
 exact ⟨fun Γ w x => ⟨s, K, h5, h6, h4, h1, qg5 h2, x.conv h3⟩⟩
theorem RoundStep.conv {σ : Type} {ws : List Nat} {sl : σ → List (Nat × Value)} {Hf : σ → List HProp} {C : σ → Hp → Prop} {μ : σ → Nat} {env0 : List Value} {K0 : Hp} {m : Nat}
  {env : List Value} {K : Hp} {H : List HProp} (h : ∀ Γ w, Sat Γ K H w → ∃ K' H', Sat Γ K' H' w ∧ RoundStep ws sl Hf C μ env0 K0 m env K' H') : RoundStep ws sl Hf C μ env0 K0 m env K H := by
 exact ⟨fun Γ w x => let ⟨K', H', y, z⟩ := h Γ w x; z.out Γ w y⟩
def qfw (R : KP) (Q : Exit → KP) : Exit → KP
 | .normal => R
 | .ret => Q .ret
 | .exit id => Q (.exit id)
 | .goto l => Q (.goto l)
 | .panic c => Q (.panic c)
 | .outgrown => Q .outgrown
theorem qo4 {σ : Type} {root : Code} {n : Nat} {p : List Nat} {env0 : List Value} {K0 : Hp} {H0 : List HProp} {Q : Exit → KP} (ws : List Nat) (sl : σ → List (Nat × Value)) (Hf : σ → List HProp) (C : σ → Hp → Prop) (μ : σ → Nat) (s0 : σ)
  (hc : qi8 (codeAt root p) = true) (h1 : qbr (sl s0) env0) (h2 : ConvH H0 (Hf s0)) (h3 : C s0 K0)
  (body : ∀ s K, K0.Le K → C s K → ∀ j : Nat → Value, qbx (Hf s) fun H => qfs j ws env0 fun env => qne (sl s) env fun env => qoa P root n (0 :: p) (qfw (RoundStep ws sl Hf C μ env0 K0 (μ s)) Q) env K H) :
  CStep P root n p env0 K0 H0 Q := by
 refine ⟨CodeStep.mk fun Γ w s => ?_⟩
 obtain ⟨c, e⟩ : ∃ c, codeAt root p = .loop c := by
  cases hx : codeAt root p <;> simp [hx, qi8] at hc
  exact ⟨_, rfl⟩
 have e0 : codeAt root (0 :: p) = c := by simp [codeAt, e, sub]
 rw [e]
 clear hc
 exact by
  refine wp_loop_ghost (fun n a w => ∃ s K env, μ s = n ∧ K0.Le K ∧ C s K ∧ a = act env ∧ qbr (sl s) env ∧ qc7 (fun _ => undef) ws env = qc7 (fun _ => undef) ws env0 ∧ Sat Γ K (Hf s) w) (μ s0)
   ⟨s0, K0, env0, rfl, .refl _, h3, rfl, h1, rfl, s.conv h2⟩ ?_
  rintro n a w ⟨s, K, env, rfl, hle, hc, rfl, hl, hb, hs⟩
  have hbody := body s K hle hc (look env)
  rw [qa9, qft, qh6, qey hb, qeh _ _ hl] at hbody
  have hb2 := qb7 root n (0 :: p) _ env K (Hf s) hbody
  rw [e0] at hb2
  refine wp_mono (hb2.elim Γ w hs) fun e a' w' hq => ?_
  cases e with
  | normal =>
   obtain ⟨env', K', H', rfl, hr, hs'⟩ := hq
   simp only [qfw] at hr
   obtain ⟨s', K'', g1, g2, g3, g4, g5, g6⟩ := hr.out Γ w' hs'
   exact ⟨μ s', g1, s', K'', env', rfl, g3, g2, rfl, g4, g5, g6⟩
  | _ => exact hq
structure MeetStep {σ : Type} (ws : List Nat) (sl : σ → List (Nat × Value)) (Hf : σ → List HProp) (C : σ → Hp → Prop) (env0 : List Value) (K0 : Hp) (env : List Value) (K : Hp) (H : List HProp) : Prop where ctor ::
 out : ∀ Γ w, Sat Γ K H w → ∃ s K', C s K' ∧ K0.Le K' ∧ qbr (sl s) env ∧ qc7 (fun _ => undef) ws env = qc7 (fun _ => undef) ws env0 ∧ Sat Γ K' (Hf s) w
theorem MeetStep.mk {σ : Type} {ws : List Nat} {sl : σ → List (Nat × Value)} {Hf : σ → List HProp} {C : σ → Hp → Prop} {env0 : List Value} {K0 : Hp}
  {env : List Value} {K : Hp} {H : List HProp} (s : σ) (h1 : qbr (sl s) env) (h2 : qfe ws 0 env env0) (h3 : ConvH H (Hf s))
  (h4 : K0.Le K) (h6 : C s K) : MeetStep ws sl Hf C env0 K0 env K H := by
 exact ⟨fun Γ w x => ⟨s, K, h6, h4, h1, qg5 h2, x.conv h3⟩⟩
theorem MeetStep.conv {σ : Type} {ws : List Nat} {sl : σ → List (Nat × Value)} {Hf : σ → List HProp} {C : σ → Hp → Prop} {env0 : List Value} {K0 : Hp}
  {env : List Value} {K : Hp} {H : List HProp} (h : ∀ Γ w, Sat Γ K H w → ∃ K' H', Sat Γ K' H' w ∧ MeetStep ws sl Hf C env0 K0 env K' H') : MeetStep ws sl Hf C env0 K0 env K H := by
 exact ⟨fun Γ w x => let ⟨K', H', y, z⟩ := h Γ w x; z.out Γ w y⟩
theorem qq5 {σ : Type} {root : Code} {n : Nat} {p : List Nat} {env0 : List Value} {K0 : Hp} {H0 : List HProp} {Q : Exit → KP} (ws : List Nat) (sl : σ → List (Nat × Value)) (Hf : σ → List HProp) (C : σ → Hp → Prop)
  (first : CStep P root n p env0 K0 H0 (qfw (MeetStep ws sl Hf C env0 K0) Q))
  (rest : ∀ s K, K0.Le K → C s K → ∀ j : Nat → Value, qbx (Hf s) fun H => qfs j ws env0 fun env => qne (sl s) env fun env => Q .normal env K H) :
  CStep P root n p env0 K0 H0 Q :=
 ⟨CodeStep.mk fun Γ w s => wp_mono (first.out.elim Γ w s) fun e a' w' hq => by
  cases e with
  | normal =>
   obtain ⟨env', K', H', rfl, hr, hs'⟩ := hq
   simp only [qfw] at hr
   obtain ⟨s', K'', g2, g3, g4, g5, g6⟩ := hr.out Γ w' hs'
   have := rest s' K'' g3 g2 (look env')
   rw [qa9, qft, qh6, qey g5, qeh _ _ g4] at this
   exact ⟨env', K'', Hf s', rfl, this, g6⟩
  | _ => exact hq⟩
theorem bsm {α : Type} {x : Option α} {y : α} (h : x = some y) : (x.bind fun z => some z) = some y := by rw [h]; rfl
structure EndStep (K0 : Hp) (F : HProp) (R : VP) (v : Value) (K : Hp) (H : List HProp) : Prop where ctor ::
 out : ∀ Γ w, Sat Γ K H w → ∃ K' H', K0.Le K' ∧ R v K' H' ∧ Sat Γ K' (H' ++ [F]) w
theorem EndStep.elim {K0 : Hp} {F : HProp} {R : VP} {v : Value} {K : Hp} {H : List HProp} (h : EndStep K0 F R v K H) :
  ∀ Γ w, Sat Γ K H w → ∃ K' H', K0.Le K' ∧ R v K' H' ∧ Sat Γ K' (H' ++ [F]) w := by
 exact h.out
theorem EndStep.mk {K0 : Hp} {F : HProp} {R : VP} {v : Value} {K : Hp} {H : List HProp} (H' : List HProp) (h1 : K0.Le K) (h2 : R v K H') (h3 : ConvH H (H' ++ [F])) : EndStep K0 F R v K H := by
 exact ⟨fun Γ w s => ⟨K, H', h1, h2, s.conv h3⟩⟩
def qsj (P : Program) (env : List Value) (K : Hp) (H : List HProp) : List ResultVar → (List Value → Prop) → Prop
 | [], k => k []
 | .tmp t :: rs, k => ql1 env t fun v => qsj P env K H rs fun vs => k (v :: vs)
 | .cell a t :: rs, k => ql1 env a fun va => match va with
  | .pointer (some ad) => RStep P (.load t (.pointer (some ad))) K H fun v => qsj P env K H rs fun vs => k (v :: vs)
  | _ => False
def qq6 : List Value → Value
 | [v] => v
 | vs => .tuple vs.toArray
def fnQ (P : Program) (rs : List ResultVar) (K0 : Hp) (F : HProp) (R : VP) : Exit → KP
 | .normal => fun env K H => qsj P env K H rs fun vs => EndStep K0 F R (qq6 vs) K H
 | .ret => fun env K H => qsj P env K H rs fun vs => EndStep K0 F R (qq6 vs) K H
 | _ => fun _ _ _ => False
def resOne (tmps : Array Value) : ResultVar → Sem Value
 | .tmp t => pure (tmps.getD t undef)
 | .cell a t => do loadVar t (← asAddr (tmps.getD a undef))
theorem qgr {w : World} {env : List Value} {K : Hp} {H : List HProp} {Γ : World} (s : Sat Γ K H w) : ∀ (rs : List ResultVar) (acc : Array Value) (k : List Value → Prop), qsj P env K H rs k →
  ∃ vs, k vs ∧ (rs.foldlM (fun bs a => do pure (bs.push (← resOne env.toArray a))) acc : Sem (Array Value)).run P w = .ok (acc ++ vs.toArray) w
 | [], acc, k, h => ⟨[], h, by simp⟩
 | .tmp t :: rs, acc, k, h => by
  simp only [qsj, qew] at h
  obtain ⟨vs, hk, hr⟩ := qgr s rs (acc.push (look env t)) _ h
  refine ⟨_, hk, ?_⟩
  have e1 : (resOne env.toArray (.tmp t)).run P w = .ok (look env t) w := by
   rw [qdt]
   simp [resOne]
  simp only [List.foldlM_cons, Sem.run_bind, e1, Sem.run_pure, Result.andThen_ok]
  rw [hr]
  simp
 | .cell a t :: rs, acc, k, h => by
  simp only [qsj, qew] at h
  split at h
  ·rename_i ad hva
   obtain ⟨v, hl, h⟩ := h.elim Γ w s
   obtain ⟨vs, hk, hr⟩ := qgr s rs (acc.push v) _ h
   refine ⟨_, hk, ?_⟩
   have hl' : (loadVar t ad).run P w = .ok v w := by
    simp only [M.sem, Instr.loadAt, Instr.sureAddr, Sem.run_bind, Sem.run_pure, Result.andThen_ok] at hl
    cases hx : (loadVar t ad).run P w with
    | ok u w' => rw [hx] at hl; simpa using hl
    | halt x w' => rw [hx] at hl; simp at hl
   have e1 : (resOne env.toArray (.cell a t)).run P w = .ok v w := by
    have e2 : env.toArray.getD a undef = .pointer (some ad) := by rw [← hva, qdt]; simp
    simp only [resOne, e2, asAddr, Sem.run_bind, Sem.run_pure, Result.andThen_ok, hl']
   simp only [List.foldlM_cons, Sem.run_bind, e1, Sem.run_pure, Result.andThen_ok]
   rw [hr]
   simp
  ·exact h.elim
theorem qh7 {w : World} {fn : Func} {env : List Value} {K : Hp} {H : List HProp} {Γ : World} (s : Sat Γ K H w) {k : List Value → Prop} (h : qsj P env K H fn.results.toList k) :
  ∃ vs, k vs ∧ (results fn env.toArray).run P w = .ok (qq6 vs) w := by
 obtain ⟨vs, hk, hr⟩ := qgr s fn.results.toList #[] k h
 refine ⟨vs, hk, ?_⟩
 have hm : (fn.results.mapM (resOne env.toArray) : Sem (Array Value)).run P w = .ok vs.toArray w := by
  rw [Array.mapM_eq_foldlM, ← Array.foldlM_toList]
  simpa using hr
 have he : results fn env.toArray = (do let vs ← fn.results.mapM (resOne env.toArray); pure (if h : vs.size = 1 then vs[0] else .tuple vs)) := rfl
 rw [he, Sem.run_bind, hm]
 simp only [Result.andThen_ok, Sem.run_pure]
 congr 1
 match vs with
 | [] => rfl
 | [v] => rfl
 | a :: b :: l => simp [qq6]
def Fn (P : Program) (f : FuncId) (args : List Value) (K : Hp) (H : List HProp) (R : VP) : Prop :=
 (∀ a w, (callFunc f a).run P w = .ok (.enter f a) w) ∧
 ∀ (F : HProp) Γ w, Sat Γ K (H ++ [F]) w → Calls P f args.toArray w fun e w' => ∃ v K' H', e = .returned v ∧ K.Le K' ∧ R v K' H' ∧ Sat Γ K' (H' ++ [F]) w'
theorem Fn.enter {f : FuncId} {fn : Func} {args : List Value} {K : Hp} {H : List HProp} {R : VP} (hf : P.funcs[f]? = some fn) (hc : ∀ a w, (callFunc f a).run P w = .ok (.enter f a) w)
  (hb : fn.body.isSome = true) (h : ∀ F, qbx (H ++ [F]) fun HF => qbx (args ++ List.replicate (fn.ntmps - args.length) undef) fun env => qoa P (fn.body.getD .skip) 500 [] (fnQ P fn.results.toList K F R) env K HF) : Fn P f args K H R := by
 obtain ⟨c, hb'⟩ := Option.isSome_iff_exists.1 hb
 refine ⟨hc, fun F Γ w s => calls_of_wp hf hb' ?_⟩
 have hv := h F
 rw [qa9, qa9] at hv
 have he : ({ tmps := args.toArray ++ Array.replicate (fn.ntmps - args.toArray.size) undef, defers := [] } : Act) = act (args ++ List.replicate (fn.ntmps - args.length) undef) := by
  simp [act]
 rw [he]
 have hv2 := qb7 _ 500 [] _ _ K _ hv
 simp only [codeAt, hb', Option.getD_some] at hv2
 refine wp_mono (hv2.elim Γ w s) fun e a w' hq => ?_
 cases e with
 | normal =>
  obtain ⟨env, K', H', rfl, hr, s'⟩ := hq
  obtain ⟨vs, hk, hrun⟩ := qh7 s' hr
  obtain ⟨K'', H'', g1, g2, g3⟩ := hk.elim Γ w' s'
  exact ⟨rfl, _, hrun, _, K'', H'', rfl, g1, g2, g3⟩
 | ret =>
  obtain ⟨env, K', H', rfl, hr, s'⟩ := hq
  obtain ⟨vs, hk, hrun⟩ := qh7 s' hr
  obtain ⟨K'', H'', g1, g2, g3⟩ := hk.elim Γ w' s'
  exact ⟨rfl, _, hrun, _, K'', H'', rfl, g1, g2, g3⟩
 | exit id => obtain ⟨_, _, _, _, hr, _⟩ := hq; exact hr.elim
 | goto l => exact hq.elim
 | panic ch => exact hq.elim
 | outgrown => exact hq.elim
theorem Sat.glue {Γ : World} {K : Hp} {M R : List HProp} {w : World} (s : Sat Γ K (M ++ R) w) : Sat Γ K (M ++ [qou R]) w := s.conv fun _ => SepL.glue
theorem Sat.unglue {Γ : World} {K : Hp} {M R : List HProp} {w : World} (s : Sat Γ K (M ++ [qou R]) w) : Sat Γ K (M ++ R) w := s.conv fun _ => SepL.unglue
theorem qtd {f : FuncId} {args : List Value} {K : Hp} {H M L : List HProp} {R c : VP} (hf : Fn P f args K M R) (hs : Split H M L)
  (h : ∀ v K' H', K.Le K' → R v K' H' → c v K' (H' ++ L)) : CallStep P f args K H c := by
 refine ⟨hf.1, fun Γ w s => (hf.2 (qou L) Γ w (s.split hs).glue).mono ?_⟩
 rintro e w' ⟨v, K', H', rfl, g1, g2, g3⟩
 exact ⟨v, K', H' ++ L, rfl, g3.unglue, h v K' H' g1 g2⟩
theorem Fn.mono {f : FuncId} {args : List Value} {K : Hp} {H : List HProp} {R R' : VP} (h : Fn P f args K H R) (hr : ∀ v K' H', K.Le K' → R v K' H' → R' v K' H') : Fn P f args K H R' :=
 ⟨h.1, fun F Γ w s => (h.2 F Γ w s).mono fun _ _ ⟨v, K', H', e, g1, g2, g3⟩ => ⟨v, K', H', e, g1, hr v K' H' g1 g2, g3⟩⟩
end
end Go.SL
