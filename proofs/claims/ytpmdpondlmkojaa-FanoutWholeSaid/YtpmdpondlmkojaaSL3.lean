/- A region that draws its order: one reckoning in the text's order serves every order that the edges let. -/
import Derived.Test.YtpmdpondlmkojaaSL2
set_option linter.unusedVariables false
namespace Go.SL
open Go

inductive Cls where
  | n | r | w
  deriving DecidableEq

/-- Which operations look at memory (r), which write it (w). -/
def clsOf (P : Program) (D : Dr) : Op → Cls
  | .move _ | .assign _ | .pick .. | .binOp .. | .unOp .. | .nilCheck _ | .fieldAddr .. | .field .. | .indexAddr .. | .index .. | .slice .. | .build ..
  | .makeInterface .. | .typeAssert .. | .extract .. | .makeFunc .. => .n
  | .convert src dst _ => match P.underlying src, P.underlying dst with
    | some (.int _), some (.int _) => .n
    | some (.slice _), some .string => .r
    | some .string, some .string => .n
    | _, _ => .w
  | .load .. => if D.lr then .r else .n
  | .lookup .. | .entry _ => .r
  | .call { callee := .value (.func f), .. } => if D.qs.contains f then .r else .w
  | .call { callee := .builtin b, argTypes, .. } => match b with
    | .len => if lenN P argTypes then .n else .r
    | .min | .max => .n
    | .cap => .r
    | _ => .w
  | _ => .w

def kcomm : Cls → Cls → Bool
  | .r, .w | .w, .r | .w, .w => false
  | _, _ => true

section
variable {P : Program} {D : Dr} {I : World → Prop} {ops : Array Oper}

/-- Operation 'o' yields 'v' in every world of the class, and leaves a world of the class. -/
def QuietAt (P : Program) (o : Oper) (a : Act) (C : World → Prop) (v : Value) : Prop :=
  ∀ w, C w → (execOp a.eval o).run P w = .ok (.value v) w ∨ ∃ f args, (execOp a.eval o).run P w = .ok (.enter f args) w ∧ Calls P f args w fun e w' => e = .returned v ∧ C w'

/-- Operation 'o' comes up in frame 'a', in some world of the class 'C'. 'I': what holds all through the region. -/
def SOp (P : Program) (D : Dr) (I : World → Prop) (ops : Array Oper) (i : Nat) (next : Act → (World → Prop) → Prop) (a : Act) (C : World → Prop) : Prop :=
  match ops[i]? with
  | none => next a C
  | some o =>
    if Region.wanted o (yielded ops a.tmps) = true then
      match clsOf P D o.op with
      | .n => ∃ v, (∀ w, I w → (execOp a.eval o).run P w = .ok (.value v) w) ∧ next (a.put o.dst v) C
      | .r => ∃ v, QuietAt P o a C v ∧ next (a.put o.dst v) C
      | .w => ∀ w, C w → o.wp P a w (fun a' w' => ∃ v C', a' = a.put o.dst v ∧ C' w' ∧ (∀ w, C' w → I w) ∧ next a' C') (fun _ _ _ => False)
    else next (a.put o.dst undef) C

/-- What a quiet operation yields. -/
def YC (P : Program) (D : Dr) (I : World → Prop) (ops : Array Oper) (o : Oper) (v : Value) (a : Act) (C : World → Prop) : Prop :=
  if Region.wanted o (yielded ops a.tmps) = true then
    match clsOf P D o.op with
    | .n => ∀ w, I w → (execOp a.eval o).run P w = .ok (.value v) w
    | .r => QuietAt P o a C v
    | .w => False
  else v = undef

theorem SOp_none {i : Nat} {next : Act → (World → Prop) → Prop} {a : Act} {C : World → Prop} (h : ops[i]? = none) : SOp P D I ops i next a C = next a C := by
  simp [SOp, h]

theorem SOp_quiet {i : Nat} {o : Oper} {next : Act → (World → Prop) → Prop} {a : Act} {C : World → Prop} (h : ops[i]? = some o)
    (hq : clsOf P D o.op ≠ .w ∨ Region.wanted o (yielded ops a.tmps) ≠ true) : SOp P D I ops i next a C ↔ ∃ v, YC P D I ops o v a C ∧ next (a.put o.dst v) C := by
  simp only [SOp, h, YC]
  by_cases hw : Region.wanted o (yielded ops a.tmps) = true
  · simp only [hw, if_true]
    cases hc : clsOf P D o.op with
    | n => simp
    | r => simp
    | w => rcases hq with hq | hq <;> contradiction
  · rw [if_neg hw]
    simp [hw]

theorem SOp_mono {i : Nat} {next next' : Act → (World → Prop) → Prop} {a : Act} {C : World → Prop} (hne : ∃ w, C w) (hCI : ∀ w, C w → I w)
    (hm : ∀ a C, (∃ w, C w) → (∀ w, C w → I w) → next a C → next' a C) (h : SOp P D I ops i next a C) : SOp P D I ops i next' a C := by
  unfold SOp at *
  split
  · rename_i ho; simp only [ho] at h; exact hm _ _ hne hCI h
  · rename_i o ho
    simp only [ho] at h
    split
    · rename_i hw
      simp only [hw, if_true] at h
      cases hc : clsOf P D o.op with
      | n => simp only [hc] at h; exact let ⟨v, h1, h2⟩ := h; ⟨v, h1, hm _ _ hne hCI h2⟩
      | r => simp only [hc] at h; exact let ⟨v, h1, h2⟩ := h; ⟨v, h1, hm _ _ hne hCI h2⟩
      | w =>
        simp only [hc] at h
        exact fun w hw' => Oper.wp_mono (fun a' w' ⟨v, C', e, c, ci, n⟩ => ⟨v, C', e, c, ci, hm _ _ ⟨_, c⟩ ci n⟩) (h w hw')
    · rename_i hw; rw [if_neg hw] at h; exact hm _ _ hne hCI h

theorem Oper.wp_some {o : Oper} {a : Act} {w : World} {K : Act → World → Prop} (h : o.wp P a w K (fun _ _ _ => False)) : ∃ a' w', K a' w' := by
  unfold Oper.wp at h
  generalize (execOp a.eval o).run P w = r at h
  cases r with
  | ok n w' =>
    cases n <;> simp only [Oper.upon] at h <;> first
      | exact ⟨_, _, h⟩
      | (obtain ⟨e, w'', fr, hR, _⟩ := h []
         cases e with
         | returned v => exact ⟨_, _, hR⟩
         | panicked c => exact hR.elim
         | outgrown => obtain ⟨_, _, hf⟩ := hR; exact hf.elim)
      | (obtain ⟨v, w'', hR, _⟩ := h default []; exact ⟨_, _, hR⟩)
  | halt x w' =>
    cases x <;> simp only [Oper.upon] at h

theorem YC_put {o : Oper} (hs : ∀ cs b, o.op ≠ .select cs b) {a : Act} {dst : Option Tmp} {u : Value} (hap : ∀ d, dst = some d → d ∉ o.looksAt ops) {v : Value} {C : World → Prop} :
    YC P D I ops o v (a.put dst u) C ↔ YC P D I ops o v a C := by
  unfold YC QuietAt
  rw [wanted_put o a dst u hap, execOp_put o hs a dst u hap]

/-- A wanted operation that writes. -/
theorem SOp_w {i : Nat} {o : Oper} {next : Act → (World → Prop) → Prop} {a : Act} {C : World → Prop} (h : ops[i]? = some o)
    (hc : clsOf P D o.op = .w) (hw : Region.wanted o (yielded ops a.tmps) = true) :
    SOp P D I ops i next a C ↔ ∀ w, C w → o.wp P a w (fun a' w' => ∃ v C', a' = a.put o.dst v ∧ C' w' ∧ (∀ w, C' w → I w) ∧ next a' C') (fun _ _ _ => False) := by
  simp only [SOp, h, hw, if_true, hc]

theorem wp_put {o : Oper} (hs : ∀ cs b, o.op ≠ .select cs b) {a : Act} {dst : Option Tmp} {u : Value} (h1 : ∀ d, dst = some d → d ∉ o.looksAt ops)
    (h2 : ∀ d, dst = some d → o.dst ≠ some d) {w : World} {K K' : Act → World → Prop}
    (hK : ∀ v w', K ((a.put o.dst v).put dst u) w' → K' (a.put o.dst v) w')
    (h : o.wp P (a.put dst u) w (fun a' w' => ∃ v, a' = (a.put dst u).put o.dst v ∧ K a' w') (fun _ _ _ => False)) :
    o.wp P a w (fun a' w' => ∃ v, a' = a.put o.dst v ∧ K' a' w') (fun _ _ _ => False) := by
  unfold Oper.wp at *
  rw [execOp_put o hs a dst u h1] at h
  generalize (execOp a.eval o).run P w = r at *
  have key : ∀ v w', (∃ v', (a.put dst u).put o.dst v = (a.put dst u).put o.dst v' ∧ K ((a.put dst u).put o.dst v) w') → ∃ v', a.put o.dst v = a.put o.dst v' ∧ K' (a.put o.dst v) w' := by
    rintro v w' ⟨_, _, hk⟩
    refine ⟨v, rfl, hK v w' ?_⟩
    have := Act.put_comm a u v (x := dst) (y := o.dst) (fun d hd => h2 d hd)
    rw [← this]
    exact hk
  cases r with
  | ok n w' =>
    cases n <;> simp only [Oper.upon] at h ⊢
    case value v => exact key v w' h
    case skip => exact key undef w' h
    case defer d =>
      exfalso
      obtain ⟨v, hv, _⟩ := h
      have := congrArg Act.defers hv
      cases hd : o.dst <;> cases hd' : dst <;> simp [Act.put, hd, hd'] at this
    case enter f args =>
      refine Calls.mono h fun e w'' he => ?_
      cases e with
      | returned v => exact key v w'' he
      | panicked c => exact he
      | outgrown => exact he
    case row row args => exact Rows.mono h fun v w'' he => key v w'' he
  | halt x w' => cases x <;> simp only [Oper.upon] at h

theorem SOp_swap {x i : Nat} {ox oi : Oper} (hx : ops[x]? = some ox) (hi : ops[i]? = some oi) (hap : ox.apart ops oi = true)
    (hsx : ∀ cs b, ox.op ≠ .select cs b) (hsi : ∀ cs b, oi.op ≠ .select cs b) (hk : kcomm (clsOf P D ox.op) (clsOf P D oi.op) = true)
    {next : Act → (World → Prop) → Prop} {a : Act} {C : World → Prop} (hne : ∃ w, C w) (hCI : ∀ w, C w → I w)
    (h : SOp P D I ops x (fun a C => SOp P D I ops i next a C) a C) : SOp P D I ops i (fun a C => SOp P D I ops x next a C) a C := by
  obtain ⟨h1, h2, h3⟩ := Oper.apart_spec hap
  have h2' : ∀ d, oi.dst = some d → ox.dst ≠ some d := fun d hd e => h2 d e hd
  by_cases qx : clsOf P D ox.op ≠ .w ∨ Region.wanted ox (yielded ops a.tmps) ≠ true
  · obtain ⟨vx, yx, hn⟩ := (SOp_quiet hx qx).1 h
    have wi : Region.wanted oi (yielded ops (a.put ox.dst vx).tmps) = Region.wanted oi (yielded ops a.tmps) := wanted_put oi a ox.dst vx h1
    by_cases qi : clsOf P D oi.op ≠ .w ∨ Region.wanted oi (yielded ops a.tmps) ≠ true
    · obtain ⟨vi, yi, hn'⟩ := (SOp_quiet hi (by rw [wi]; exact qi)).1 hn
      refine (SOp_quiet hi qi).2 ⟨vi, (YC_put hsi h1).1 yi, (SOp_quiet hx ?_).2 ⟨vx, (YC_put hsx h3).2 yx, ?_⟩⟩
      · rw [wanted_put ox a oi.dst vi h3]; exact qx
      · rw [← Act.put_comm a vx vi h2]; exact hn'
    · have qi' : clsOf P D oi.op = .w ∧ Region.wanted oi (yielded ops a.tmps) = true := by
        constructor
        · exact Classical.byContradiction fun e => qi (.inl e)
        · exact Classical.byContradiction fun e => qi (.inr e)
      rw [SOp_w hi qi'.1 (by rw [wi]; exact qi'.2)] at hn
      rw [SOp_w hi qi'.1 qi'.2]
      -- ox is quiet for good: it is of class n, or not wanted
      have yx' : ∀ C', YC P D I ops ox vx a C' := by
        intro C'
        unfold YC at yx ⊢
        split
        · rename_i hw
          simp only [hw, if_true] at yx
          rw [qi'.1] at hk
          cases hc : clsOf P D ox.op with
          | n => simp only [hc] at yx ⊢; exact yx
          | r => rw [hc] at hk; simp [kcomm] at hk
          | w => rw [hc] at hk; simp [kcomm] at hk
        · rename_i hw; rw [if_neg hw] at yx; exact yx
      intro w hw
      have hn2 := hn w hw
      refine Oper.wp_mono ?_ (wp_put hsi h1 (fun d hd e => h2 d hd e) (K := fun a' w' => ∃ C', C' w' ∧ (∀ w, C' w → I w) ∧ next a' C') (K' := fun a' w' => ∃ C', C' w' ∧ (∀ w, C' w → I w) ∧ next (a'.put ox.dst vx) C')
        (fun v w' ⟨C', c, ci, n⟩ => ⟨C', c, ci, n⟩) (Oper.wp_mono ?_ hn2))
      · rintro a' w' ⟨v, rfl, C', c, ci, n⟩
        refine ⟨v, C', rfl, c, ci, (SOp_quiet hx ?_).2 ⟨vx, (YC_put hsx h3).2 (yx' C'), n⟩⟩
        rw [wanted_put ox a oi.dst v h3]; exact qx
      · rintro a' w' ⟨v, C', rfl, c, ci, n⟩
        exact ⟨v, rfl, C', c, ci, n⟩
  · have qx' : clsOf P D ox.op = .w ∧ Region.wanted ox (yielded ops a.tmps) = true := by
      constructor
      · exact Classical.byContradiction fun e => qx (.inl e)
      · exact Classical.byContradiction fun e => qx (.inr e)
    rw [SOp_w hx qx'.1 qx'.2] at h
    -- oi is of class n, or not wanted
    have hcn : clsOf P D oi.op = .n := by
      cases hc : clsOf P D oi.op with
      | n => rfl
      | r => rw [qx'.1, hc] at hk; simp [kcomm] at hk
      | w => rw [qx'.1, hc] at hk; simp [kcomm] at hk
    have qi : ∀ a' : Act, clsOf P D oi.op ≠ .w ∨ Region.wanted oi (yielded ops a'.tmps) ≠ true := fun _ => .inl (by rw [hcn]; simp)
    have free : ∀ v a' C C', YC P D I ops oi v a' C → YC P D I ops oi v a' C' := by
      intro v a' C C' y
      unfold YC at y ⊢
      split
      · rename_i hw; simp only [hw, if_true, hcn] at y ⊢; exact y
      · rename_i hw; rw [if_neg hw] at y; exact y
    have uniq : ∀ v v' a' C C', YC P D I ops oi v a' C → YC P D I ops oi v' a' C' → v = v' := by
      intro v v' a' C C' y y'
      unfold YC at y y'
      split at y
      · rename_i hw
        simp only [hw, if_true, hcn] at y y'
        obtain ⟨w, hw0⟩ := hne
        have := (y w (hCI w hw0)).symm.trans (y' w (hCI w hw0))
        simpa using this
      · rename_i hw; rw [if_neg hw] at y'; rw [y, y']
    obtain ⟨w0, hw0⟩ := hne
    obtain ⟨a1, w1, v1, C1, rfl, c1, _, n1⟩ := Oper.wp_some (h w0 hw0)
    obtain ⟨vi, yi, _⟩ := (SOp_quiet hi (qi _)).1 n1
    have yi' : YC P D I ops oi vi a C := free _ _ _ _ ((YC_put hsi h1).1 yi)
    refine (SOp_quiet hi (qi _)).2 ⟨vi, yi', ?_⟩
    rw [SOp_w hx qx'.1 (by rw [wanted_put ox a oi.dst vi h3]; exact qx'.2)]
    intro w hw
    have hh := h w hw
    -- the same with oi's value laid before
    unfold Oper.wp at hh ⊢
    rw [execOp_put ox hsx a oi.dst vi h3]
    generalize (execOp a.eval ox).run P w = r at *
    have key : ∀ v w', (∃ v' C', a.put ox.dst v = a.put ox.dst v' ∧ C' w' ∧ (∀ w, C' w → I w) ∧ SOp P D I ops i next (a.put ox.dst v) C') →
        ∃ v' C', (a.put oi.dst vi).put ox.dst v = (a.put oi.dst vi).put ox.dst v' ∧ C' w' ∧ (∀ w, C' w → I w) ∧ next ((a.put oi.dst vi).put ox.dst v) C' := by
      rintro v w' ⟨_, C', _, c, ci, n⟩
      obtain ⟨vi', y', n'⟩ := (SOp_quiet hi (qi _)).1 n
      have e := uniq _ _ _ _ _ yi' ((YC_put hsi h1).1 y')
      subst e
      refine ⟨v, C', rfl, c, ci, ?_⟩
      rw [← Act.put_comm a v vi h2]
      exact n'
    cases r with
    | ok n w' =>
      cases n <;> simp only [Oper.upon] at hh ⊢
      case value v => exact key v w' hh
      case skip => exact key undef w' hh
      case defer d =>
        exfalso
        obtain ⟨v, _, hv, _⟩ := hh
        have := congrArg Act.defers hv
        cases hd : ox.dst <;> simp [Act.put, hd] at this
      case enter f args =>
        refine Calls.mono hh fun e w'' he => ?_
        cases e with
        | returned v => exact key v w'' he
        | panicked c => exact he
        | outgrown => exact he
      case row row args => exact Rows.mono hh fun v w'' he => key v w'' he
    | halt x w' => cases x <;> simp only [Oper.upon] at hh

/-- The operations of a list, one behind the other. -/
def SOps (P : Program) (D : Dr) (I : World → Prop) (ops : Array Oper) (Q : Act → (World → Prop) → Prop) : List Nat → Act → (World → Prop) → Prop
  | [] => Q
  | i :: l => SOp P D I ops i (SOps P D I ops Q l)

theorem SOps_first {Q : Act → (World → Prop) → Prop} {i : Nat} {oi : Oper} (hi : ops[i]? = some oi) (hsi : ∀ cs b, oi.op ≠ .select cs b) : ∀ (l1 l2 : List Nat),
    (∀ x ∈ l1, ∃ ox, ops[x]? = some ox ∧ ox.apart ops oi = true ∧ (∀ cs b, ox.op ≠ .select cs b) ∧ kcomm (clsOf P D ox.op) (clsOf P D oi.op) = true) →
    ∀ (a : Act) (C : World → Prop), (∃ w, C w) → (∀ w, C w → I w) → SOps P D I ops Q (l1 ++ i :: l2) a C → SOp P D I ops i (SOps P D I ops Q (l1 ++ l2)) a C
  | [], l2, _, _, _, _, _, h => h
  | x :: l1, l2, hc, a, C, hne, hCI, h => by
    obtain ⟨ox, hx, hap, hsx, hk⟩ := hc x (by simp)
    refine SOp_swap hx hi hap hsx hsi hk hne hCI (SOp_mono hne hCI (fun a C hne' hCI' h' => ?_) h)
    exact SOps_first hi hsi l1 l2 (fun y hy => hc y (by simp [hy])) a C hne' hCI' h'

theorem wpOp_of_SOp {Q : Exit → Act → World → Prop} {i : Nat} {next : Act → (World → Prop) → Prop} {a : Act} {C : World → Prop} {w : World} (hw : C w) (hCI : ∀ w, C w → I w)
    (h : SOp P D I ops i next a C) : wpOp P ops Q i (fun a w => ∃ C, C w ∧ (∀ w, C w → I w) ∧ next a C) a w := by
  unfold SOp at h
  unfold wpOp
  split
  · rename_i ho; simp only [ho] at h; exact ⟨C, hw, hCI, h⟩
  · rename_i o ho
    simp only [ho] at h
    split
    · rename_i hwt
      simp only [hwt, if_true] at h
      left
      cases hc : clsOf P D o.op with
      | n =>
        simp only [hc] at h
        obtain ⟨v, h1, h2⟩ := h
        unfold Oper.wp; rw [h1 w (hCI w hw), Oper.upon_value]; exact ⟨C, hw, hCI, h2⟩
      | r =>
        simp only [hc] at h
        obtain ⟨v, h1, h2⟩ := h
        unfold Oper.wp
        rcases h1 w hw with h1 | ⟨f, args, h1, h3⟩
        · rw [h1, Oper.upon_value]; exact ⟨C, hw, hCI, h2⟩
        · rw [h1, Oper.upon_enter]
          exact h3.mono fun e w' ⟨he, hC⟩ => by subst he; exact ⟨C, hC, hCI, h2⟩
      | w =>
        simp only [hc] at h
        have := h w hw
        unfold Oper.wp at this ⊢
        generalize (execOp a.eval o).run P w = r at *
        cases r with
        | ok n w' =>
          cases n <;> simp only [Oper.upon] at this ⊢
          case value v => obtain ⟨_, C', _, c, ci, n⟩ := this; exact ⟨C', c, ci, n⟩
          case skip => obtain ⟨_, C', _, c, ci, n⟩ := this; exact ⟨C', c, ci, n⟩
          case defer d => obtain ⟨_, C', _, c, ci, n⟩ := this; exact ⟨C', c, ci, n⟩
          case enter f args =>
            refine Calls.mono this fun e w'' he => ?_
            cases e with
            | returned v => obtain ⟨_, C', _, c, ci, n⟩ := he; exact ⟨C', c, ci, n⟩
            | panicked c => exact he.elim
            | outgrown => obtain ⟨_, _, hf⟩ := he; exact hf.elim
          case row row args => exact Rows.mono this fun v w'' ⟨_, C', _, c, ci, n⟩ => ⟨C', c, ci, n⟩
        | halt x w' => cases x <;> simp only [Oper.upon] at this
    · rename_i hwt; rw [if_neg hwt] at h; exact ⟨C, hw, hCI, h⟩

/-! ### the check -/
def dirB (o : Oper) (x : Nat) : Bool := o.after.any fun e => Region.binds .any e && e.on == x
/-- Everything that stands before operation 'i', by edges. -/
def pres (ops : Array Oper) : Nat → Nat → List Nat
  | 0, _ => []
  | n + 1, i => match ops[i]? with
    | none => []
    | some o => (o.after.toList.filter (Region.binds .any ·)).flatMap fun e => e.on :: pres ops n e.on
def commB (P : Program) (D : Dr) (ops : Array Oper) (x i : Nat) : Bool :=
  match ops[x]?, ops[i]? with
  | some ox, some oi => ox.apart ops oi && kcomm (clsOf P D ox.op) (clsOf P D oi.op)
  | _, _ => false
def okDraw (P : Program) (D : Dr) (ops : Array Oper) : Bool :=
  Region.noSelect ops && P.follows .mixedOrders &&
  (List.range ops.size).all fun i =>
    let ps := pres ops ops.size i
    ps.all (· < i) && (List.range i).all fun x => commB P D ops x i || ps.contains x

structure Down (ops : Array Oper) (listed : Array Bool) : Prop where
  down : ∀ i o, ops[i]? = some o → listed.getD i false = true → ∀ e ∈ o.after, Region.binds .any e = true → listed.getD e.on false = true

theorem Down.pres {listed : Array Bool} (d : Down ops listed) : ∀ (n i : Nat), (∀ o, ops[i]? = some o → ∀ e ∈ o.after, Region.binds .any e = true → listed.getD e.on false = true) →
    ∀ x ∈ pres ops n i, listed.getD x false = true := by
  intro n
  induction n with
  | zero => intro i _ x hx; simp [SL.pres] at hx
  | succ n ih =>
    intro i hi x hx
    simp only [SL.pres] at hx
    split at hx
    · simp at hx
    · rename_i o ho
      simp only [List.mem_flatMap, List.mem_filter] at hx
      obtain ⟨e, ⟨he, hb⟩, hx⟩ := hx
      have hl := hi o ho e (by simpa using he) hb
      rcases List.mem_cons.1 hx with rfl | hx
      · exact hl
      · exact ih e.on (fun o' ho' => d.down e.on o' ho' hl) x hx

theorem draw_from {z : Nat} (hsel : Region.noSelect ops = true) (hpairs : ∀ i, z ≤ i → i < ops.size → (∀ x ∈ SL.pres ops ops.size i, x < i) ∧ ∀ x, x < i → commB P D ops x i = true ∨ x ∈ SL.pres ops ops.size i) {Q : Exit → Act → World → Prop} {Qn : Act → (World → Prop) → Prop} (hQ : ∀ a C w, C w → Qn a C → Q .normal a w) :
    ∀ (fuel : Nat) (l : List Nat) (listed : Array Bool) (a : Act) (C : World → Prop) (w : World), listed.size = ops.size → l.Pairwise (· < ·) → (∀ i, i ∈ l ↔ i < ops.size ∧ listed.getD i false = false) → (∀ i ∈ l, z ≤ i) →
      l.length ≤ fuel → Down ops listed → C w → (∀ w, C w → I w) → SOps P D I ops Qn l a C → wpAny P .any ops Q fuel listed a w := by
  have hs : ∀ (j : Nat) (o : Oper) cs b, ops[j]? = some o → o.op ≠ .select cs b := fun j o cs b ho => Region.noSelect_spec hsel j o cs b ho
  intro fuel
  induction fuel with
  | zero =>
    intro l listed a C w hsz hsort hmem hz hlen hd hw hCI h
    have hl : l = [] := List.eq_nil_of_length_eq_zero (Nat.le_zero.1 hlen)
    subst hl
    refine ⟨?_, hQ a C w hw h⟩
    rw [List.eq_nil_iff_forall_not_mem]
    intro i hi
    obtain ⟨h2, o, ho, _⟩ := (mem_ready (md := .any) (ops := ops)).1 hi
    have h1 : i < ops.size := (Array.getElem?_eq_some_iff.1 ho).1
    have hin := (hmem i).2 ⟨h1, by
      have hlt : i < listed.size := by omega
      simpa [hlt] using h2⟩
    simp at hin
  | succ fuel ih =>
    intro l listed a C w hsz hsort hmem hz hlen hd hw hCI h
    refine ⟨fun hr => ?_, fun i hi => ?_⟩
    · -- nothing is ready: then nothing is left: the least that is left would be ready
      cases l with
      | nil => exact hQ a C w hw h
      | cons i l =>
        exfalso
        have hi := (hmem i).1 (by simp)
        have : i ∈ Region.ready .any ops listed := by
          refine mem_ready.2 ⟨?_, ?_⟩
          · have hlt : i < listed.size := by omega
            simpa [hlt] using hi.2
          · refine ⟨ops[i]'hi.1, by simp [hi.1], fun e he hb => ?_⟩
            have hp := (hpairs i (hz i (by simp)) hi.1).1 e.on (by
              have : ops.size = ops.size - 1 + 1 := by omega
              rw [this, SL.pres]
              simp only [Array.getElem?_eq_getElem hi.1, List.mem_flatMap, List.mem_filter]
              exact ⟨e, ⟨by simpa using he, hb⟩, by simp⟩)
            have hnl : e.on ∉ (i :: l) := by
              intro hm
              rcases List.mem_cons.1 hm with e1 | hm
              · omega
              · have := List.rel_of_pairwise_cons hsort hm; omega
            have := mt (hmem e.on).2 hnl
            simp only [not_and, Bool.not_eq_false] at this
            exact this (by omega)
        rw [hr] at this
        simp at this
    · obtain ⟨hi2, oi, hoi, hi3⟩ := mem_ready.1 hi
      have hi1 : i < ops.size := (Array.getElem?_eq_some_iff.1 hoi).1
      have hil : i ∈ l := (hmem i).2 ⟨hi1, by
        have hlt : i < listed.size := by omega
        simpa [hlt] using hi2⟩
      obtain ⟨l1, l2, rfl⟩ := List.append_of_mem hil
      have hready : ∀ o, ops[i]? = some o → ∀ e ∈ o.after, Region.binds .any e = true → listed.getD e.on false = true := by
        intro o ho e he hb
        rw [hoi] at ho; cases ho
        exact hi3 e he hb
      have hfirst : SOp P D I ops i (SOps P D I ops Qn (l1 ++ l2)) a C := by
        refine SOps_first hoi (fun cs b => hs i oi cs b hoi) l1 l2 (fun x hx => ?_) a C ⟨w, hw⟩ hCI h
        have hxl := (hmem x).1 (by simp [hx])
        have hxi : x < i := (List.pairwise_append.1 hsort).2.2 x hx i (by simp)
        have hnp : x ∉ SL.pres ops ops.size i := fun hp => by
          have := hd.pres ops.size i hready x hp
          rw [hxl.2] at this; cases this
        have hc : commB P D ops x i = true := by
          rcases (hpairs i (hz i hil) hi1).2 x hxi with hc | hc
          · exact hc
          · exact absurd hc hnp
        unfold commB at hc
        split at hc
        · rename_i ox oi' hox hoi'
          rw [hoi] at hoi'; cases hoi'
          simp only [Bool.and_eq_true] at hc
          exact ⟨ox, hox, hc.1, fun cs b => hs x ox cs b hox, hc.2⟩
        · cases hc
      refine wpOp_mono (fun a w ⟨C, hC, hCI, hn⟩ => ?_) (wpOp_of_SOp hw hCI hfirst)
      have hp := List.pairwise_append.1 hsort
      refine ih (l1 ++ l2) _ a C w (by simp [hsz]) ?_ ?_ (fun j hj => hz j (by rcases List.mem_append.1 hj with hj | hj <;> simp [hj])) ?_ ⟨?_⟩ hC hCI hn
      · exact List.pairwise_append.2 ⟨hp.1, (List.pairwise_cons.1 hp.2.1).2, fun x hx y hy => hp.2.2 x hx y (by simp [hy])⟩
      · intro j
        have hj := hmem j
        by_cases e : j = i
        · subst e
          constructor
          · intro hm
            exfalso
            rcases List.mem_append.1 hm with hm | hm
            · have := hp.2.2 j hm j (by simp); omega
            · have := List.rel_of_pairwise_cons hp.2.1 hm; omega
          · rintro ⟨hlt, hf⟩
            have hlt' : j < listed.size := by omega
            simp [hlt'] at hf
        · rw [getD_set_ne _ (fun x => e x.symm), ← hj]
          simp [e]
      · simp at hlen ⊢; omega
      · intro j o ho hj e he hb
        by_cases eq : i = j
        · subst eq; exact getD_set_true (hready o ho e he hb)
        · rw [getD_set_ne _ eq] at hj
          exact getD_set_true (hd.down j o ho hj e he hb)

theorem okDraw_pairs (hok : okDraw P D ops = true) : Region.noSelect ops = true ∧ P.follows .mixedOrders = true ∧ ∀ i, i < ops.size → (∀ x ∈ SL.pres ops ops.size i, x < i) ∧ ∀ x, x < i → commB P D ops x i = true ∨ x ∈ SL.pres ops ops.size i := by
  simp only [okDraw, Bool.and_eq_true, List.all_eq_true, List.mem_range, decide_eq_true_eq, Bool.or_eq_true] at hok
  refine ⟨hok.1.1, hok.1.2, fun i hi => ⟨(hok.2 i hi).1, fun x hx => ?_⟩⟩
  rcases (hok.2 i hi).2 x hx with h | h
  · exact .inl h
  · exact .inr (by simpa using h)
theorem draw_any (hok : okDraw P D ops = true) {Q : Exit → Act → World → Prop} {Qn : Act → (World → Prop) → Prop} (hQ : ∀ a C w, C w → Qn a C → Q .normal a w)
    (fuel : Nat) (l : List Nat) (listed : Array Bool) (a : Act) (C : World → Prop) (w : World) (h1 : listed.size = ops.size) (h2 : l.Pairwise (· < ·)) (h3 : ∀ i, i ∈ l ↔ i < ops.size ∧ listed.getD i false = false)
      (h4 : l.length ≤ fuel) (h5 : Down ops listed) (h6 : C w) (h7 : ∀ w, C w → I w) (h8 : SOps P D I ops Qn l a C) : wpAny P .any ops Q fuel listed a w :=
  draw_from (z := 0) (okDraw_pairs hok).1 (fun i _ hi => (okDraw_pairs hok).2.2 i hi) hQ fuel l listed a C w h1 h2 h3 (fun _ _ => Nat.zero_le _) h4 h5 h6 h7 h8

/-! ### a tail that stands behind all else -/
/-- Operations up to 'z' in any order, the others in their own, behind all. -/
def okTail (P : Program) (D : Dr) (ops : Array Oper) (z : Nat) : Bool :=
  Region.noSelect ops && P.follows .mixedOrders &&
  (List.range ops.size).all fun i =>
    let ps := pres ops ops.size i
    ps.all (· < i) && (List.range i).all fun x => (decide (i < z) && commB P D ops x i) || ps.contains x
theorem okTail_pairs {z : Nat} (hok : okTail P D ops z = true) : Region.noSelect ops = true ∧ P.follows .mixedOrders = true ∧ ∀ i, i < ops.size → (∀ x ∈ SL.pres ops ops.size i, x < i) ∧ ∀ x, x < i → (i < z ∧ commB P D ops x i = true) ∨ x ∈ SL.pres ops ops.size i := by
  simp only [okTail, Bool.and_eq_true, List.all_eq_true, List.mem_range, decide_eq_true_eq, Bool.or_eq_true] at hok
  refine ⟨hok.1.1, hok.1.2, fun i hi => ⟨(hok.2 i hi).1, fun x hx => ?_⟩⟩
  rcases (hok.2 i hi).2 x hx with h | h
  · exact .inl h
  · exact .inr (by simpa using h)
theorem draw_tail {D2 : Dr} {z : Nat} (hz : z < ops.size) (hok : okTail P D ops z = true) {Q : Exit → Act → World → Prop} {Qn : Act → (World → Prop) → Prop} (hQ : ∀ a C w, C w → Qn a C → Q .normal a w) :
    ∀ (fuel : Nat) (l : List Nat) (listed : Array Bool) (a : Act) (C : World → Prop) (w : World), listed.size = ops.size → l.Pairwise (· < ·) → (∀ i, i ∈ l ↔ i < z ∧ listed.getD i false = false) → (∀ i, z ≤ i → listed.getD i false = false) →
      l.length + (ops.size - z) ≤ fuel → Down ops listed → C w → (∀ w, C w → I w) → SOps P D I ops (fun a C => SOps P D2 (fun _ => True) ops Qn (List.range' z (ops.size - z)) a C) l a C → wpAny P .any ops Q fuel listed a w := by
  obtain ⟨hsel, hmix, hpairs⟩ := okTail_pairs hok
  have hs : ∀ (j : Nat) (o : Oper) cs b, ops[j]? = some o → o.op ≠ .select cs b := fun j o cs b ho => Region.noSelect_spec hsel j o cs b ho
  intro fuel
  induction fuel with
  | zero => intro l listed a C w _ _ _ _ hlen; omega
  | succ fuel ih =>
    intro l listed a C w hsz hsort hmem hrest hlen hd hw hCI h
    rcases l with _ | ⟨i0, l0⟩
    · -- the tail
      refine draw_from (z := z) (I := fun _ => True) (D := D2) hsel (fun i hzi hi => ⟨(hpairs i hi).1, fun x hx => by
        rcases (hpairs i hi).2 x hx with h | h
        · omega
        · exact .inr h⟩) hQ (fuel + 1) (List.range' z (ops.size - z)) listed a C w hsz List.pairwise_lt_range' (fun i => ?_) (fun i hi => (List.mem_range'_1.1 hi).1) (by simp at hlen ⊢; omega) hd hw (fun _ _ => trivial) h
      rw [List.mem_range'_1]
      constructor
      · intro hi; exact ⟨by omega, hrest i hi.1⟩
      · intro hi
        have : z ≤ i := by
          rcases Nat.lt_or_ge i z with q | q
          · have := (hmem i).2 ⟨q, hi.2⟩; simp at this
          · exact q
        exact ⟨this, by omega⟩
    · refine ⟨fun hr => ?_, fun i hi => ?_⟩
      · exfalso
        have hi := (hmem i0).1 (by simp)
        have hi1 : i0 < ops.size := by omega
        have : i0 ∈ Region.ready .any ops listed := by
          refine mem_ready.2 ⟨?_, ?_⟩
          · have hlt : i0 < listed.size := by omega
            simpa [hlt] using hi.2
          · refine ⟨ops[i0]'hi1, by simp [hi1], fun e he hb => ?_⟩
            have hp := (hpairs i0 hi1).1 e.on (by
              have : ops.size = ops.size - 1 + 1 := by omega
              rw [this, SL.pres]
              simp only [Array.getElem?_eq_getElem hi1, List.mem_flatMap, List.mem_filter]
              exact ⟨e, ⟨by simpa using he, hb⟩, by simp⟩)
            have hnl : e.on ∉ (i0 :: l0) := by
              intro hm
              rcases List.mem_cons.1 hm with e1 | hm
              · omega
              · have := List.rel_of_pairwise_cons hsort hm; omega
            have := mt (hmem e.on).2 hnl
            simp only [not_and, Bool.not_eq_false] at this
            exact this (by omega)
        rw [hr] at this
        simp at this
      · obtain ⟨hi2, oi, hoi, hi3⟩ := mem_ready.1 hi
        have hi1 : i < ops.size := (Array.getElem?_eq_some_iff.1 hoi).1
        have hready : ∀ o, ops[i]? = some o → ∀ e ∈ o.after, Region.binds .any e = true → listed.getD e.on false = true := by
          intro o ho e he hb
          rw [hoi] at ho; cases ho
          exact hi3 e he hb
        have hiz : i < z := by
          rcases Nat.lt_or_ge i z with q | q
          · exact q
          · exfalso
            have h0 := (hmem i0).1 (by simp)
            have hp : i0 ∈ SL.pres ops ops.size i := by
              rcases (hpairs i hi1).2 i0 (by omega) with h | h
              · omega
              · exact h
            have := hd.pres ops.size i hready i0 hp
            rw [h0.2] at this; cases this
        have hil : i ∈ i0 :: l0 := (hmem i).2 ⟨hiz, by
          have hlt : i < listed.size := by omega
          simpa [hlt] using hi2⟩
        generalize hll : i0 :: l0 = l at *
        obtain ⟨l1, l2, rfl⟩ := List.append_of_mem hil
        have hfirst : SOp P D I ops i (SOps P D I ops (fun a C => SOps P D2 (fun _ => True) ops Qn (List.range' z (ops.size - z)) a C) (l1 ++ l2)) a C := by
          refine SOps_first hoi (fun cs b => hs i oi cs b hoi) l1 l2 (fun x hx => ?_) a C ⟨w, hw⟩ hCI h
          have hxl := (hmem x).1 (by simp [hx])
          have hxi : x < i := (List.pairwise_append.1 hsort).2.2 x hx i (by simp)
          have hnp : x ∉ SL.pres ops ops.size i := fun hp => by
            have := hd.pres ops.size i hready x hp
            rw [hxl.2] at this; cases this
          have hc : commB P D ops x i = true := by
            rcases (hpairs i hi1).2 x hxi with hc | hc
            · exact hc.2
            · exact absurd hc hnp
          unfold commB at hc
          split at hc
          · rename_i ox oi' hox hoi'
            rw [hoi] at hoi'; cases hoi'
            simp only [Bool.and_eq_true] at hc
            exact ⟨ox, hox, hc.1, fun cs b => hs x ox cs b hox, hc.2⟩
          · cases hc
        refine wpOp_mono (fun a w ⟨C, hC, hCI, hn⟩ => ?_) (wpOp_of_SOp hw hCI hfirst)
        have hp := List.pairwise_append.1 hsort
        refine ih (l1 ++ l2) _ a C w (by simp [hsz]) ?_ ?_ ?_ ?_ ⟨?_⟩ hC hCI hn
        · exact List.pairwise_append.2 ⟨hp.1, (List.pairwise_cons.1 hp.2.1).2, fun x hx y hy => hp.2.2 x hx y (by simp [hy])⟩
        · intro j
          have hj := hmem j
          by_cases e : j = i
          · subst e
            constructor
            · intro hm
              exfalso
              rcases List.mem_append.1 hm with hm | hm
              · have := hp.2.2 j hm j (by simp); omega
              · have := List.rel_of_pairwise_cons hp.2.1 hm; omega
            · rintro ⟨hlt, hf⟩
              have hlt' : j < listed.size := by omega
              simp [hlt'] at hf
          · rw [getD_set_ne _ (fun x => e x.symm), ← hj]
            simp [e]
        · intro j hj
          rw [getD_set_ne _ (by omega)]; exact hrest j hj
        · simp at hlen ⊢; omega
        · intro j o ho hj e he hb
          by_cases eq : i = j
          · subst eq; exact getD_set_true (hready o ho e he hb)
          · rw [getD_set_ne _ eq] at hj
            exact getD_set_true (hd.down j o ho hj e he hb)
theorem draw_region_tail {D2 : Dr} {id z : Nat} (hz : z < ops.size) (hok : okTail P D ops z = true) {Q : Exit → Act → World → Prop} {Qn : Act → (World → Prop) → Prop} (hQ : ∀ a C w, C w → Qn a C → Q .normal a w)
    {a : Act} {C : World → Prop} {w : World} (hw : C w.drew) (hCI : ∀ w, C w → I w)
    (h : SOps P D I ops (fun a C => SOps P D2 (fun _ => True) ops Qn (List.range' z (ops.size - z)) a C) (List.range z) a C) : (Code.region id ops true).wp P Q a w := by
  refine wp_region_any (okTail_pairs hok).2.1 ?_
  refine draw_tail hz hok hQ ops.size (List.range z) (Array.replicate ops.size false) a C _ (by simp) List.pairwise_lt_range (fun i => ?_) (fun i hi => ?_) (by simp; omega) ⟨?_⟩ hw hCI h
  · simp only [List.mem_range]
    constructor
    · intro hi
      have : i < ops.size := by omega
      exact ⟨hi, by simp [this]⟩
    · exact fun hi => hi.1
  · rcases Nat.lt_or_ge i ops.size with q | q
    · simp [q]
    · simp [Array.getD]
  · intro i o ho hi
    have hlt : i < ops.size := (Array.getElem?_eq_some_iff.1 ho).1
    simp [hlt] at hi

theorem draw_region {id : Nat} (hok : okDraw P D ops = true) {Q : Exit → Act → World → Prop} {Qn : Act → (World → Prop) → Prop} (hQ : ∀ a C w, C w → Qn a C → Q .normal a w)
    {a : Act} {C : World → Prop} {w : World} (hw : C w.drew) (hCI : ∀ w, C w → I w) (h : SOps P D I ops Qn (List.range ops.size) a C) : (Code.region id ops true).wp P Q a w := by
  have hm : P.follows .mixedOrders = true := by
    have := hok
    simp only [okDraw, Bool.and_eq_true] at this
    exact this.1.2
  refine wp_region_any hm ?_
  refine draw_any hok hQ ops.size (List.range ops.size) (Array.replicate ops.size false) a C _ (by simp) List.pairwise_lt_range (fun i => ?_) (by simp) ⟨?_⟩ hw hCI h
  · simp only [List.mem_range]
    constructor
    · intro hi; exact ⟨hi, by simp [hi]⟩
    · exact fun hi => hi.1
  · intro i o ho hi
    have hlt : i < ops.size := (Array.getElem?_eq_some_iff.1 ho).1
    simp [hlt] at hi
end
end Go.SL
