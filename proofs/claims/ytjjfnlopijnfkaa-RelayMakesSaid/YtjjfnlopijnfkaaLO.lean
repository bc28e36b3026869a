/- The library: facts about walks, over any program. -/
import Derived.Test.YtjjfnlopijnfkaaLN
import Derived.Lib.Atoi
set_option linter.unusedVariables false
set_option linter.unusedSimpArgs false
set_option linter.unusedSectionVars false
set_option linter.unusedVariables false
set_option linter.unusedSimpArgs false
namespace Go.SL
open Go Go.RowKit
end Go.SL
set_option linter.unusedVariables false
set_option linter.unusedSimpArgs false
namespace Go.SL
open Go
end Go.SL
set_option linter.unusedVariables false
set_option linter.unusedSimpArgs false
namespace Go.SL
open Go
section
variable {P : Program} {α : Type} {enc : α → List Value} {e e' sz cap : Nat} {a : Option Addr} {css : List (List Value)} {ls : List (List α)} {K : Hp} {H H1 H2 H3 : List HProp} {c : VP}
/-- The cells of a struct, said in another way. -/
theorem cellsE {K0 : Hp} {F : HProp} {R : VP} {v : Value} {b T : Nat} {cs cs' : List Value} (hr : Rem (Cells b T cs) H H1) (e : cs = cs') (h : EndStep K0 F R v K (Cells b T cs' :: H1)) : EndStep K0 F R v K H :=
  EndStep.conv fun Γ w s => ⟨K, _, by subst e; exact s.rem hr, h⟩
end
theorem max3_eq {k : IntKind} {a b d : Int} {w : World} {ts : Array TypeId} {ty : TypeId} {cs : Array Bool} {P : Program} : ((M.builtin .max ts ty cs [.int k a, .int k b, .int k d]).sem).run P w = .ok (.value (.int k (max (max a b) d))) w := by
  simp [M.sem, Go.builtin, Builtin.max_, Builtin.max2]
  rw [Int.max_def, Int.max_def]
  repeat' split
  all_goals first | rfl | omega
theorem max3_int {P : Program} {ts : Array TypeId} {ty : TypeId} {cs : Array Bool} {k : IntKind} {a b d : Int} {K : Hp} {H : List HProp} {c : Value → Prop} (h : c (.int k (max (max a b) d))) : RStepS P (.builtin .max ts ty cs [.int k a, .int k b, .int k d]) K H c :=
  RStepS.mk _ (fun Γ w s => max3_eq) h
end Go.SL
set_option linter.unusedVariables false
set_option linter.unusedSimpArgs false
namespace Go.SL
open Go
end Go.SL
set_option linter.unusedVariables false
set_option linter.unusedSimpArgs false
namespace Go.SL
open Go
end Go.SL
set_option linter.unusedVariables false
namespace Go.SL
open Go
section
variable {P : Program}
theorem Split.pf : ∀ (M L : List HProp), Split (M ++ L) M L
  | [], _ => .nil
  | _ :: M, L => .cons .here (Split.pf M L)
theorem sp {H M L : List HProp} (h : H = M ++ L) : Split H M L := by rw [h]; exact Split.pf M L
theorem pf {H M L : List HProp} (h : H = M ++ L) : ConvH H M := ConvH.of (sp h)
/-- The heaplet at a place, and the others. -/
def remL : Nat → List HProp → Option (HProp × List HProp)
  | _, [] => none
  | 0, a :: l => some (a, l)
  | n + 1, a :: l => match remL n l with
    | some (x, r) => some (x, a :: r)
    | none => none
def selL : List Nat → List HProp → Option (List HProp × List HProp)
  | [], l => some ([], l)
  | n :: ns, l => match remL n l with
    | some (x, r) => match selL ns r with
      | some (m, q) => some (x :: m, q)
      | none => none
    | none => none
theorem remL_rem : ∀ {n : Nat} {l r : List HProp} {a : HProp}, remL n l = some (a, r) → Rem a l r
  | 0, [], _, _, h => by simp [remL] at h
  | _ + 1, [], _, _, h => by simp [remL] at h
  | 0, a :: l, _, _, h => by cases h; exact .here
  | n + 1, a :: l, _, _, h => by
    unfold remL at h
    cases hr : remL n l with
    | none => rw [hr] at h; cases h
    | some q => obtain ⟨x, r⟩ := q; rw [hr] at h; cases h; exact .there (remL_rem hr)
theorem selL_split : ∀ {ns : List Nat} {l m q : List HProp}, selL ns l = some (m, q) → Split l m q
  | [], _, _, _, h => by cases h; exact .nil
  | n :: ns, l, _, _, h => by
    unfold selL at h
    cases hr : remL n l with
    | none => rw [hr] at h; cases h
    | some p =>
      obtain ⟨x, r⟩ := p; rw [hr] at h; simp only at h
      cases hs : selL ns r with
      | none => rw [hs] at h; cases h
      | some p => obtain ⟨m, q⟩ := p; rw [hs] at h; cases h; exact .cons (remL_rem hr) (selL_split hs)
theorem ss (ns : List Nat) {H M L : List HProp} (h : selL ns H = some (M, L)) : Split H M L := selL_split h
theorem en {K0 : Hp} {F : HProp} {R : VP} {v : Value} {K : Hp} {H H' : List HProp} (h1 : K0.Le K) (h2 : R v K H') (h3 : ConvH H (H' ++ [F])) : EndStep K0 F R v K H := EndStep.mk H' h1 h2 h3
/-- The slots but for those named (in order); twice, so that no two calls look alike. -/
def sbA : List Nat → Nat → List Value → List Value
  | [], _, l => l
  | _ :: _, _, [] => []
  | w :: ws, i, a :: xs => match Nat.beq w i with
    | true => undef :: sbA ws (i + 1) xs
    | false => a :: sbA (w :: ws) (i + 1) xs
def sbB : List Nat → Nat → List Value → List Value
  | [], _, l => l
  | _ :: _, _, [] => []
  | w :: ws, i, a :: xs => match Nat.beq w i with
    | true => undef :: sbB ws (i + 1) xs
    | false => a :: sbB (w :: ws) (i + 1) xs
theorem sb_look : ∀ (ws : List Nat) (i : Nat) (a b : List Value), sbA ws i a = sbB ws i b → a.length = b.length ∧ ∀ t, i + t ∉ ws → look a t = look b t
  | [], i, a, b, h => by
    rw [sbA, sbB] at h; subst h; exact ⟨rfl, fun _ _ => rfl⟩
  | w :: ws, i, [], [], h => ⟨rfl, fun _ _ => rfl⟩
  | w :: ws, i, [], b :: zs, h => by
    rw [sbA, sbB] at h; split at h <;> cases h
  | w :: ws, i, a :: xs, [], h => by
    rw [sbA, sbB] at h; split at h <;> cases h
  | w :: ws, i, a :: xs, b :: zs, h => by
    rw [sbA, sbB] at h
    split at h
    · rename_i hc
      injection h with _ h
      obtain ⟨h1, h2⟩ := sb_look ws (i + 1) xs zs h
      refine ⟨by simp [h1], fun t ht => ?_⟩
      cases t with
      | zero => exact absurd (List.mem_cons.2 (.inl (Nat.eq_of_beq_eq_true hc).symm)) ht
      | succ t => exact h2 t (fun hm => ht (by rw [Nat.add_right_comm] at hm; exact List.mem_cons_of_mem _ hm))
    · injection h with h0 h
      obtain ⟨h1, h2⟩ := sb_look (w :: ws) (i + 1) xs zs h
      refine ⟨by simp [h1], fun t ht => ?_⟩
      cases t with
      | zero => exact h0
      | succ t => exact h2 t (by rw [Nat.add_right_comm]; exact ht)
theorem sb_fill {ws : List Nat} {a b : List Value} (h : sbA ws 0 a = sbB ws 0 b) : fillJ (fun _ => undef) ws a = fillJ (fun _ => undef) ws b := by
  obtain ⟨h1, h2⟩ := sb_look ws 0 a b h
  refine look_ext _ _ (by simp [fillJ_length, h1]) fun t => ?_
  rw [look_fillJ, look_fillJ, h1]
  split
  · rfl
  · rename_i hn
    by_cases hm : t ∈ ws
    · have hb : b.length ≤ t := Classical.byContradiction fun e => hn ⟨hm, by omega⟩
      rw [look_big _ _ hb, look_big _ _ (by omega)]
    · exact h2 t (by simpa using hm)
theorem mt {σ : Type} {ws : List Nat} {sl : σ → List (Nat × Value)} {Hf : σ → List HProp} {C : σ → Hp → Prop} {env0 : List Value} {K0 : Hp}
    {env : List Value} {K : Hp} {H : List HProp} (s : σ) (h1 : allLook (sl s) env) (h2 : sbA ws 0 env = sbB ws 0 env0) (h3 : ConvH H (Hf s))
    (h4 : K0.Le K) (h6 : C s K) : MeetStep ws sl Hf C env0 K0 env K H := ⟨fun Γ w x => ⟨s, K, h6, h4, h1, sb_fill h2, x.conv h3⟩⟩
theorem rd {σ : Type} {ws : List Nat} {sl : σ → List (Nat × Value)} {Hf : σ → List HProp} {C : σ → Hp → Prop} {μ : σ → Nat} {env0 : List Value} {K0 : Hp} {m : Nat}
    {env : List Value} {K : Hp} {H : List HProp} (s : σ) (h1 : allLook (sl s) env) (h2 : sbA ws 0 env = sbB ws 0 env0) (h3 : ConvH H (Hf s))
    (h4 : K0.Le K) (h5 : μ s < m) (h6 : C s K) : RoundStep ws sl Hf C μ env0 K0 m env K H := ⟨fun Γ w x => ⟨s, K, h5, h6, h4, h1, sb_fill h2, x.conv h3⟩⟩
/-- A branch: both ways, the mirror's too. -/
theorem cs {β : Type} {root : Code} {n : Nat} {p : List Nat} {b : Operand} {t : Bool} {env : List Value} {K : Hp} {H : List HProp} {Q : Exit → KP} {X Y : Option β} {r : β} (hc : condOf (codeAt root p) = some b) (hv : ev env b = .bool t)
    (hm : (if t = true then X else Y) = some r) (h1 : t = true → X = some r → vcAt P root n (0 :: p) Q env K H) (h2 : t = false → Y = some r → vcAt P root n (1 :: p) Q env K H) : CStep P root n p env K H Q := by
  refine cond_go hc ?_
  rw [evK_eq, hv]
  exact cond_s (fun h => h1 h (ift h hm)) (fun h => h2 h (iff_ h hm))
theorem ci {β : Type} {e : Int} {c : Value → Prop} {f : Unit → Option β} {r : β} (hm : (chk (InI e)).bind f = some r) (h : f () = some r → c (.int .i64 e)) : IntStep .i64 e c :=
  int_in (k := .i64) (chkb hm).1 (h (chkb hm).2)
theorem lr {K : Hp} : K.Le K := Hp.Le.refl K
theorem ro {m : M} {K : Hp} {H : List HProp} {c : Value → Prop} (h : RStepS P m K H c) : RStep P m K H c := RStep.of h
end
end Go.SL
