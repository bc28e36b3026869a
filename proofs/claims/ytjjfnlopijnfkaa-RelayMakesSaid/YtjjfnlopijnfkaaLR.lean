/- The library: facts about walks, over any program. -/
import Derived.Test.YtjjfnlopijnfkaaLQ
import Derived.Lib.LaidTab
set_option linter.unusedVariables false
set_option linter.unusedSimpArgs false
set_option linter.unusedSectionVars false
set_option linter.unusedVariables false
set_option linter.unusedSimpArgs false
namespace Go.SL
open Go
end Go.SL
set_option linter.unusedVariables false
namespace Go.SL
open Go
end Go.SL
set_option linter.unusedVariables false
namespace Go.SL
open Go
class RpI {α : Type} (n : outParam Nat) (R : Rp α) : Prop where
  ok : RpOK n R
instance {α : Type} {enc : α → List Value} {sz : Nat} : RpI 1 (sliL enc sz) := ⟨sliL_ok⟩
instance {α : Type} {R : Rp α} {sz : Nat} [h : RpI sz R] : RpI 1 (sliR R sz) := ⟨sliR_ok h.ok⟩
instance {α : Type} : RpI 1 (hdR (α := α)) := ⟨hdR_ok⟩
theorem LiC.up {α : Type} {R : Rp α} {n m : Nat} [i : RpI m R] {K K' : Hp} {a : Option Addr} {cap : Nat} {l : List α} (e : m = n) (h : LiC R K a cap n l) (hk : K.Le K') : LiC R K' a cap n l :=
  LiC.mono (e ▸ i.ok) hk h
theorem LR.up {α : Type} {R : Rp α} {m : Nat} [i : RpI m R] {K K' : Hp} {css : List (List Value)} {l : List α} (h : LR R K css l) (hk : K.Le K') : LR R K' css l := LR.mono i.ok hk h
theorem Hp.Le.tr {a b c : Hp} (k : b.Le c) (h : a.Le b) : a.Le c := h.trans k
theorem ql {a b : Hp} (h : a.Le b := by repeat (first | exact Hp.Le.refl _ | with_reducible assumption | (apply Hp.Le.tr; with_reducible assumption))) : a.Le b := h
/-- A fact about the knowledge, out of those at hand. -/
theorem qf {X : Prop} (h : X := by
    repeat' (first
      | with_reducible assumption
      | with_reducible refine And.intro ?_ ?_
      | exact rfl
      | exact trivial
      | exact RdC.nil
      | exact LiC.nil
      | exact LR.nil
      | (apply RdC.mono; (first | with_reducible assumption | assumption); repeat (first | exact Hp.Le.refl _ | with_reducible assumption | (apply Hp.Le.tr; with_reducible assumption)))
      | (apply LiC.up rfl; (first | with_reducible assumption | assumption); repeat (first | exact Hp.Le.refl _ | with_reducible assumption | (apply Hp.Le.tr; with_reducible assumption)))
      | (apply LR.up; (first | with_reducible assumption | assumption); repeat (first | exact Hp.Le.refl _ | with_reducible assumption | (apply Hp.Le.tr; with_reducible assumption)))
      | (apply GG.mono; (first | with_reducible assumption | assumption); repeat (first | exact Hp.Le.refl _ | with_reducible assumption | (apply Hp.Le.tr; with_reducible assumption)))
      | (apply MS.mono; (first | with_reducible assumption | assumption); repeat (first | exact Hp.Le.refl _ | with_reducible assumption | (apply Hp.Le.tr; with_reducible assumption)))
      | exact fun _ => ⟨_, _, rfl⟩
      | exact fun h => absurd h (Nat.lt_irrefl 0)
      | assumption)) : X := h
theorem qs {H M L : List HProp} (h : Split H M L := by first | ((repeat (first | with_reducible exact Rem.here | with_reducible apply Rem.there | with_reducible exact Split.nil | apply Split.cons)); done) | (repeat (first | exact Rem.here | apply Rem.there | exact Split.nil | apply Split.cons))) : Split H M L := h
section
variable {P : Program}
theorem Sat.forget {Γ : World} {K K' : Hp} {H : List HProp} {w : World} (h : K.Le K') (s : Sat Γ K' H w) : Sat Γ K H w :=
  ⟨s.os, s.tape, s.output, fun i o e => s.know i o (h i o e), let ⟨p, d, x, y⟩ := s.heap; ⟨p, d.mono h (.refl _), x, y⟩⟩
/-! ### ends -/
theorem EndStep.m {K0 : Hp} {F : HProp} {R : VP} {v : Value} {K : Hp} {H H' L L' : List HProp} (h2 : R v K H') (h1 : K0.Le K) (h3 : Split H H' L) (h4 : Rem F L L') : EndStep K0 F R v K H :=
  EndStep.mk H' h1 h2 fun x hx => by
    have h := h3.sep hx
    obtain ⟨p, q, d, l1, l2, a, b⟩ := SepL.parts h
    obtain ⟨p', q', d', l1', l2', a', b'⟩ := h4.sep b
    exact SepL.flat (d.mono (.refl _) l1') l1 (l1'.trans l2) a ⟨p', fun _ => none, fun _ => .inr rfl, .refl _, Hp.emp_le _, a', trivial⟩
theorem er {R S β : Type} {x : R} {s : Fl R S} {f : R → Option β} {g : S → Option β} {r : β} (h1 : some (Fl.ret x) = some s) (h2 : s.el f g = some r) : f x = some r := by
  cases h1; exact h2
/-- The end of a function. -/
theorem eE {β : Type} {x r : β} {K0 : Hp} {F : HProp} {R : VP} {v : Value} {K : Hp} {H : List HProp} (hm : some x = some r)
    (h : x = r → EndStep K0 F R v K H := by
      rintro rfl
      apply EndStep.m
      repeat' (first
          | with_reducible apply Exists.intro
          | with_reducible apply And.intro
          | exact rfl)
      all_goals try ((repeat (first | with_reducible exact Rem.here | with_reducible apply Rem.there | with_reducible exact Split.nil | apply Split.cons)); done)
      all_goals try ((repeat (first | exact Rem.here | apply Rem.there | exact Split.nil | apply Split.cons)); done)
      all_goals try (repeat (first | exact Hp.Le.refl _ | with_reducible assumption | (apply Hp.Le.tr; with_reducible assumption)))
      all_goals try (repeat' (first
        | with_reducible assumption
        | with_reducible refine And.intro ?_ ?_
        | exact rfl
        | exact trivial
        | exact RdC.nil
        | exact LiC.nil
        | exact LR.nil
        | (apply RdC.mono; (first | with_reducible assumption | assumption); repeat (first | exact Hp.Le.refl _ | with_reducible assumption | (apply Hp.Le.tr; with_reducible assumption)))
        | (apply LiC.up rfl; (first | with_reducible assumption | assumption); repeat (first | exact Hp.Le.refl _ | with_reducible assumption | (apply Hp.Le.tr; with_reducible assumption)))
        | (apply LR.up; (first | with_reducible assumption | assumption); repeat (first | exact Hp.Le.refl _ | with_reducible assumption | (apply Hp.Le.tr; with_reducible assumption)))
        | (apply GG.mono; (first | with_reducible assumption | assumption); repeat (first | exact Hp.Le.refl _ | with_reducible assumption | (apply Hp.Le.tr; with_reducible assumption)))
        | (apply MS.mono; (first | with_reducible assumption | assumption); repeat (first | exact Hp.Le.refl _ | with_reducible assumption | (apply Hp.Le.tr; with_reducible assumption)))
        | exact fun _ => ⟨_, _, rfl⟩
        | exact fun h => absurd h (Nat.lt_irrefl 0)
        | assumption))) : EndStep K0 F R v K H := h (si hm)
theorem bq {c e : Bool} (q : c = e) : Value.bool c = Value.bool e := by rw [q]
theorem bE {c e : Bool} (q : c = e) {K0 : Hp} {F : HProp} {R : VP} {K : Hp} {H : List HProp} (h : EndStep K0 F R (.bool e) K H) : EndStep K0 F R (.bool c) K H := by rw [q]; exact h
theorem cS {β : Type} {b : Bool} {A B : Prop} {X Y : Option β} {r : β} (hm : (if b = true then X else Y) = some r) (h1 : b = true → X = some r → A) (h2 : b = false → Y = some r → B) : condP b A B :=
  cond_s (fun h => h1 h (ift h hm)) (fun h => h2 h (iff_ h hm))
theorem qk {d : DrI} {K : Hp} {H : List HProp} {B : Prop} (c : ConvH H (d.priv.map fun p => Blk p.1 p.2)) (h : B) (k : d.K.Le K := by repeat (first | exact Hp.Le.refl _ | with_reducible assumption | (apply Hp.Le.tr; with_reducible assumption))) (hc : d.cin = [] := by rfl) : d.Keep K H ∧ B :=
  ⟨⟨k, c, hc ▸ ci0⟩, h⟩
theorem madeE {α : Type} {enc : α → List Value} {t e sz : Nat} {b k : Nat} {z : Value} {K0 : Hp} {F : HProp} {R : VP} {v : Value} {K : Hp} {H H' : List HProp} (x0 : α) (T : ElT P t e sz) (hz : tyZeroV P e = some z) (hx : z.cells.toList = enc x0) (ho : allOne (enc x0) = true) (hk : k ≤ lim) (hr : Rem (MadeB b e z (k * sz)) H H')
    (h : EndStep K0 F R v K (OwnL enc (some ⟨b, 0, none⟩) e sz k (List.replicate k x0) :: H')) : EndStep K0 F R v K H := EndStep.conv fun Γ w s => ⟨K, _, (s.rem hr).made x0 T hz hx ho hk, h⟩
/-! ### meetings, rounds -/
section
variable {σ : Type} {ws : List Nat} {sl : σ → List (Nat × Value)} {Hf : σ → List HProp} {C : σ → Hp → Prop} {μ : σ → Nat} {env0 : List Value} {K0 : Hp} {m : Nat} {env : List Value} {K : Hp} {H : List HProp}
theorem eM {β : Type} {x y : β} (hm : some x = some y) (s : σ)
    (h : x = y → C s K ∧ allLook (sl s) env ∧ K0.Le K ∧ ∃ L, Split H (Hf s) L := by
      intro hm
      refine And.intro ?_ (And.intro ?_ (And.intro ?_ (Exists.intro ?_ ?_)))
      all_goals try (repeat' (with_reducible apply And.intro))
      all_goals try (first | exact hm | exact hm.symm)
      all_goals try (repeat (first | exact trivial | refine And.intro rfl ?_))
      all_goals try ((repeat (first | with_reducible exact Rem.here | with_reducible apply Rem.there | with_reducible exact Split.nil | apply Split.cons)); done)
      all_goals try ((repeat (first | exact Rem.here | apply Rem.there | exact Split.nil | apply Split.cons)); done)
      all_goals try (repeat (first | exact Hp.Le.refl _ | with_reducible assumption | (apply Hp.Le.tr; with_reducible assumption)))
      all_goals try (repeat' (first
        | with_reducible assumption
        | with_reducible refine And.intro ?_ ?_
        | exact rfl
        | exact trivial
        | exact RdC.nil
        | exact LiC.nil
        | exact LR.nil
        | (apply RdC.mono; (first | with_reducible assumption | assumption); repeat (first | exact Hp.Le.refl _ | with_reducible assumption | (apply Hp.Le.tr; with_reducible assumption)))
        | (apply LiC.up rfl; (first | with_reducible assumption | assumption); repeat (first | exact Hp.Le.refl _ | with_reducible assumption | (apply Hp.Le.tr; with_reducible assumption)))
        | (apply LR.up; (first | with_reducible assumption | assumption); repeat (first | exact Hp.Le.refl _ | with_reducible assumption | (apply Hp.Le.tr; with_reducible assumption)))
        | (apply GG.mono; (first | with_reducible assumption | assumption); repeat (first | exact Hp.Le.refl _ | with_reducible assumption | (apply Hp.Le.tr; with_reducible assumption)))
        | (apply MS.mono; (first | with_reducible assumption | assumption); repeat (first | exact Hp.Le.refl _ | with_reducible assumption | (apply Hp.Le.tr; with_reducible assumption)))
        | exact fun _ => ⟨_, _, rfl⟩
        | exact fun h => absurd h (Nat.lt_irrefl 0)
        | assumption))) (h2 : sbA ws 0 env = sbB ws 0 env0 := by rfl) : MeetStep ws sl Hf C env0 K0 env K H :=
  let ⟨h6, h1, h4, _, h3⟩ := h (si hm); mt s h1 h2 (ConvH.of h3) h4 h6
theorem eMq {β : Type} {x y : β} (hm : some x = some y) (s : σ) (h1 : allLook (sl s) env)
    (h : x = y → C s K ∧ K0.Le K ∧ ∃ L, Split H (Hf s) L := by
      intro hm
      refine And.intro ?_ (And.intro ?_ (Exists.intro ?_ ?_))
      all_goals try (repeat' (with_reducible apply And.intro))
      all_goals try (first | exact hm | exact hm.symm)
      all_goals try ((repeat (first | with_reducible exact Rem.here | with_reducible apply Rem.there | with_reducible exact Split.nil | apply Split.cons)); done)
      all_goals try ((repeat (first | exact Rem.here | apply Rem.there | exact Split.nil | apply Split.cons)); done)
      all_goals try (repeat (first | exact Hp.Le.refl _ | with_reducible assumption | (apply Hp.Le.tr; with_reducible assumption)))
      all_goals try (repeat' (first
        | with_reducible assumption
        | with_reducible refine And.intro ?_ ?_
        | exact rfl
        | exact trivial
        | exact RdC.nil
        | exact LiC.nil
        | exact LR.nil
        | (apply RdC.mono; (first | with_reducible assumption | assumption); repeat (first | exact Hp.Le.refl _ | with_reducible assumption | (apply Hp.Le.tr; with_reducible assumption)))
        | (apply LiC.up rfl; (first | with_reducible assumption | assumption); repeat (first | exact Hp.Le.refl _ | with_reducible assumption | (apply Hp.Le.tr; with_reducible assumption)))
        | (apply LR.up; (first | with_reducible assumption | assumption); repeat (first | exact Hp.Le.refl _ | with_reducible assumption | (apply Hp.Le.tr; with_reducible assumption)))
        | (apply GG.mono; (first | with_reducible assumption | assumption); repeat (first | exact Hp.Le.refl _ | with_reducible assumption | (apply Hp.Le.tr; with_reducible assumption)))
        | (apply MS.mono; (first | with_reducible assumption | assumption); repeat (first | exact Hp.Le.refl _ | with_reducible assumption | (apply Hp.Le.tr; with_reducible assumption)))
        | exact fun _ => ⟨_, _, rfl⟩
        | exact fun h => absurd h (Nat.lt_irrefl 0)
        | assumption))) (h2 : sbA ws 0 env = sbB ws 0 env0 := by rfl) : MeetStep ws sl Hf C env0 K0 env K H :=
  let ⟨h6, h4, _, h3⟩ := h (si hm); mt s h1 h2 (ConvH.of h3) h4 h6
theorem eMt (s : σ) (h1 : allLook (sl s) env)
    (h : C s K ∧ K0.Le K ∧ ∃ L, Split H (Hf s) L := by
      refine And.intro ?_ (And.intro ?_ (Exists.intro ?_ ?_))
      all_goals try ((repeat (first | with_reducible exact Rem.here | with_reducible apply Rem.there | with_reducible exact Split.nil | apply Split.cons)); done)
      all_goals try ((repeat (first | exact Rem.here | apply Rem.there | exact Split.nil | apply Split.cons)); done)
      all_goals try (repeat (first | exact Hp.Le.refl _ | with_reducible assumption | (apply Hp.Le.tr; with_reducible assumption)))
      all_goals try (repeat' (first
        | with_reducible assumption
        | with_reducible refine And.intro ?_ ?_
        | exact rfl
        | exact trivial
        | exact RdC.nil
        | exact LiC.nil
        | exact LR.nil
        | (apply RdC.mono; (first | with_reducible assumption | assumption); repeat (first | exact Hp.Le.refl _ | with_reducible assumption | (apply Hp.Le.tr; with_reducible assumption)))
        | (apply LiC.up rfl; (first | with_reducible assumption | assumption); repeat (first | exact Hp.Le.refl _ | with_reducible assumption | (apply Hp.Le.tr; with_reducible assumption)))
        | (apply LR.up; (first | with_reducible assumption | assumption); repeat (first | exact Hp.Le.refl _ | with_reducible assumption | (apply Hp.Le.tr; with_reducible assumption)))
        | (apply GG.mono; (first | with_reducible assumption | assumption); repeat (first | exact Hp.Le.refl _ | with_reducible assumption | (apply Hp.Le.tr; with_reducible assumption)))
        | (apply MS.mono; (first | with_reducible assumption | assumption); repeat (first | exact Hp.Le.refl _ | with_reducible assumption | (apply Hp.Le.tr; with_reducible assumption)))
        | exact fun _ => ⟨_, _, rfl⟩
        | exact fun h => absurd h (Nat.lt_irrefl 0)
        | assumption))) (h2 : sbA ws 0 env = sbB ws 0 env0 := by rfl) : MeetStep ws sl Hf C env0 K0 env K H :=
  let ⟨h6, h4, _, h3⟩ := h; mt s h1 h2 (ConvH.of h3) h4 h6
theorem eR {M : Prop} (hm : M) (s : σ)
    (h : M → C s K ∧ allLook (sl s) env ∧ K0.Le K ∧ μ s < m ∧ ∃ L, Split H (Hf s) L := by
      intro hm
      refine And.intro ?_ (And.intro ?_ (And.intro ?_ (And.intro ?_ (Exists.intro ?_ ?_))))
      all_goals try (repeat' (with_reducible apply And.intro))
      all_goals try exact hm
      all_goals try (repeat (first | exact trivial | refine And.intro rfl ?_))
      all_goals try ((repeat (first | with_reducible exact Rem.here | with_reducible apply Rem.there | with_reducible exact Split.nil | apply Split.cons)); done)
      all_goals try ((repeat (first | exact Rem.here | apply Rem.there | exact Split.nil | apply Split.cons)); done)
      all_goals try (first | exact Nat.lt_succ_self _ | (apply ltm; first | with_reducible assumption | assumption) | (apply ltnm; first | with_reducible assumption | assumption))
      all_goals try (repeat (first | exact Hp.Le.refl _ | with_reducible assumption | (apply Hp.Le.tr; with_reducible assumption)))
      all_goals try (repeat' (first
        | with_reducible assumption
        | with_reducible refine And.intro ?_ ?_
        | exact rfl
        | exact trivial
        | exact RdC.nil
        | exact LiC.nil
        | exact LR.nil
        | (apply RdC.mono; (first | with_reducible assumption | assumption); repeat (first | exact Hp.Le.refl _ | with_reducible assumption | (apply Hp.Le.tr; with_reducible assumption)))
        | (apply LiC.up rfl; (first | with_reducible assumption | assumption); repeat (first | exact Hp.Le.refl _ | with_reducible assumption | (apply Hp.Le.tr; with_reducible assumption)))
        | (apply LR.up; (first | with_reducible assumption | assumption); repeat (first | exact Hp.Le.refl _ | with_reducible assumption | (apply Hp.Le.tr; with_reducible assumption)))
        | (apply GG.mono; (first | with_reducible assumption | assumption); repeat (first | exact Hp.Le.refl _ | with_reducible assumption | (apply Hp.Le.tr; with_reducible assumption)))
        | (apply MS.mono; (first | with_reducible assumption | assumption); repeat (first | exact Hp.Le.refl _ | with_reducible assumption | (apply Hp.Le.tr; with_reducible assumption)))
        | exact fun _ => ⟨_, _, rfl⟩
        | exact fun h => absurd h (Nat.lt_irrefl 0)
        | assumption))) (h2 : sbA ws 0 env = sbB ws 0 env0 := by rfl) : RoundStep ws sl Hf C μ env0 K0 m env K H :=
  let ⟨h6, h1, h4, h5, _, h3⟩ := h hm; rd s h1 h2 (ConvH.of h3) h4 h5 h6
end
/-! ### calls -/
theorem cb {α β : Type} {m : Option α} {f : α → Option β} {r : β} {S : Prop} (h : m.bind f = some r) (k : ∀ x, m = some x → f x = some r → S) : S :=
  let ⟨x, a, b⟩ := bnd h; k x a b
section
variable {f : FuncId} {args : List Value} {K : Hp} {H M L M' : List HProp} {R c : VP} {V : Value} {X : Prop}
theorem call_forget (hf : Fn P f args K M R) (hs : Split H M L) (h : ∀ v K' H', R v K' H' → c v K (H' ++ L)) : CallStep P f args K H c := by
  refine ⟨hf.1, fun Γ w s => (hf.2 (SepH L) Γ w (s.split hs).glue).mono ?_⟩
  rintro e w' ⟨v, K', H', rfl, g1, g2, g3⟩
  exact ⟨v, K, H' ++ L, rfl, (g3.unglue).forget g1, h v K' H' g2⟩
theorem ck0 (hf : Fn P f args K M R) (h : ∀ v K' H', R v K' H' → c v K (H' ++ L)) (hs : Split H M L := by exact qs) : CallStep P f args K H c := call_forget hf hs h
theorem cg0 (hf : Fn P f args K M fun v _ H' => v = V ∧ H' = M') (h : c V K (M' ++ L)) (hs : Split H M L := by exact qs) : CallStep P f args K H c :=
  call_forget hf hs fun _ _ _ ⟨e1, e2⟩ => by subst e1 e2; exact h
theorem cfx (hf : X → Fn P f args K M R) (h : ∀ v K' H', K.Le K' → R v K' H' → c v K' (H' ++ L)) (hx : X := by exact qf) (hs : Split H M L := by exact qs) : CallStep P f args K H c := call_fn (hf hx) hs h
theorem ckx (hf : X → Fn P f args K M R) (h : ∀ v K' H', R v K' H' → c v K (H' ++ L)) (hx : X := by exact qf) (hs : Split H M L := by exact qs) : CallStep P f args K H c := call_forget (hf hx) hs h
theorem cgx (hf : X → Fn P f args K M fun v _ H' => v = V ∧ H' = M') (h : c V K (M' ++ L)) (hx : X := by exact qf) (hs : Split H M L := by exact qs) : CallStep P f args K H c := cg0 (hf hx) h hs
end
/-! ### joins, loops -/
def ntK : List HProp → Nat → (HProp → Prop) → Prop
  | [], _, _ => False
  | a :: _, 0, k => k a
  | _ :: l, n + 1, k => ntK l n k
/-- The heaplets at these places. -/
def pkK : List Nat → List HProp → (List HProp → Prop) → Prop
  | [], _, k => k []
  | i :: is, H, k => ntK H i fun A => pkK is H fun L => k (A :: L)
theorem ntK_ex : ∀ {H : List HProp} {i : Nat} {k : HProp → Prop}, ntK H i k → ∃ A, k A
  | [], _, _, h => h.elim
  | a :: _, 0, _, h => ⟨a, h⟩
  | _ :: l, n + 1, k, h => ntK_ex (H := l) h
theorem pkK_ex : ∀ {is : List Nat} {H : List HProp} {k : List HProp → Prop}, pkK is H k → ∃ L, k L
  | [], _, _, h => ⟨[], h⟩
  | i :: is, H, k, h => let ⟨A, h⟩ := ntK_ex h; let ⟨L, h⟩ := pkK_ex h; ⟨A :: L, h⟩
section
variable {σ : Type} {root : Code} {n : Nat} {p : List Nat} {env0 : List Value} {K0 : Hp} {H0 : List HProp} {Q : Exit → KP}
theorem cut_forget (ws : List Nat) (sl : σ → List (Nat × Value)) (Hf : σ → List HProp) (C : σ → Prop)
    (first : CStep P root n p env0 K0 H0 (loopQ (MeetStep ws sl Hf (fun s _ => C s) env0 K0) Q))
    (rest : ∀ s, C s → ∀ j : Nat → Value, force (Hf s) fun H => fillK j ws env0 fun env => setK (sl s) env fun env => Q .normal env K0 H) :
    CStep P root n p env0 K0 H0 Q :=
  ⟨CodeStep.mk fun Γ w s => wp_mono (first.out.elim Γ w s) fun e a' w' hq => by
    cases e with
    | normal =>
      obtain ⟨env', K', H', rfl, hr, hs'⟩ := hq
      simp only [loopQ] at hr
      obtain ⟨s', K'', g2, g3, g4, g5, g6⟩ := hr.out Γ w' hs'
      have := rest s' g2 (look env')
      rw [force_eq, fillK_eq, setK_eq, fillJ_look g5, setL_same _ _ g4] at this
      exact ⟨env', K0, Hf s', rfl, this, g6.forget g3⟩
    | _ => exact hq⟩
/-- No heaplet changes. -/
theorem jR (ws : List Nat) (sl : σ → List (Nat × Value)) (C : σ → Prop)
    (h1 : CStep P root n p env0 K0 H0 (loopQ (MeetStep ws sl (fun _ => H0) (fun s _ => C s) env0 K0) Q))
    (h2 : ∀ s, C s → ∀ j : Nat → Value, fillK j ws env0 fun env => setK (sl s) env fun env => Q .normal env K0 H0) : CStep P root n p env0 K0 H0 Q :=
  cut_forget ws sl (fun _ => H0) C h1 fun s hc j => by rw [force_eq]; exact h2 s hc j
theorem dR {ops : Array Oper} {Q : KP} (ws : List Nat) (sl : σ → List (Nat × Value)) (C : σ → Prop)
    (first : DStep P ops env0 K0 H0 (MeetStep ws sl (fun _ => H0) (fun s _ => C s) env0 K0))
    (rest : ∀ s, C s → ∀ j : Nat → Value, fillK j ws env0 fun env => setK (sl s) env fun env => Q env K0 H0) :
    DStep P ops env0 K0 H0 Q :=
  ⟨fun Γ w s id R h => first.out Γ w s id R fun env K H w' hr hs' => by
    obtain ⟨s', K'', g2, g3, g4, g5, g6⟩ := hr.out Γ w' hs'
    have := rest s' g2 (look env)
    rw [fillK_eq, setK_eq, fillJ_look g5, setL_same _ _ g4] at this
    exact h _ _ _ _ this (g6.forget g3)⟩
end
section
variable {σ : Type} {root : Code} {n : Nat} {p : List Nat} {env0 : List Value} {K0 : Hp} {H0 : List HProp} {Q : Exit → KP}
theorem block_cs {id : Nat} (hc : isBlock (codeAt root p) = some id) {env : List Value} {K : Hp} {H : List HProp} (h : CStep P root n (0 :: p) env K H (blockQ id Q)) : CStep P root n p env K H Q := by
  refine ⟨CodeStep.mk fun Γ w s => ?_⟩
  obtain ⟨c, e⟩ : ∃ c, codeAt root p = .block id c := by
    cases hx : codeAt root p <;> simp [hx, isBlock] at hc
    subst hc; exact ⟨_, rfl⟩
  have e0 : codeAt root (0 :: p) = c := by simp [codeAt, e, sub]
  have h0 := h.out
  rw [e0] at h0
  rw [e]
  refine wp_block (wp_mono (h0.elim Γ w s) fun e a w hq => ?_)
  cases e with
  | exit id' =>
    obtain ⟨env', K', H', rfl, hq, s'⟩ := hq
    simp only [blockQ] at hq
    simp only [Exit.inBlock]
    split
    · rename_i e; subst e
      rcases condP_true hq with ⟨_, hq⟩ | ⟨e, _⟩
      · exact ⟨env', K', H', rfl, hq, s'⟩
      · simp at e
    · rename_i e
      rcases condP_true hq with ⟨e', _⟩ | ⟨_, hq⟩
      · exact absurd (by simpa using e') e
      · exact ⟨env', K', H', rfl, hq, s'⟩
  | normal => exact hq
  | ret => exact hq
  | goto l => exact hq.elim
  | panic c => exact hq.elim
  | outgrown => exact hq.elim
/-- What holds ahead of a loop. -/
theorem qe {C : Prop} {l : List (Nat × Value)} {env : List Value} {H M : List HProp} (h : C ∧ allLook l env ∧ ∃ R, Split H M R := by
      refine And.intro ?_ (And.intro ?_ (Exists.intro ?_ ?_))
      all_goals try (repeat' (with_reducible apply And.intro))
      all_goals try (repeat (first | exact trivial | refine And.intro rfl ?_))
      all_goals try ((repeat (first | with_reducible exact Rem.here | with_reducible apply Rem.there | with_reducible exact Split.nil | apply Split.cons)); done)
      all_goals try ((repeat (first | exact Rem.here | apply Rem.there | exact Split.nil | apply Split.cons)); done)
      all_goals try (repeat' (first
        | with_reducible assumption
        | with_reducible refine And.intro ?_ ?_
        | exact rfl
        | exact trivial
        | exact RdC.nil
        | exact LiC.nil
        | exact LR.nil
        | (apply RdC.mono; (first | with_reducible assumption | assumption); repeat (first | exact Hp.Le.refl _ | with_reducible assumption | (apply Hp.Le.tr; with_reducible assumption)))
        | (apply LiC.up rfl; (first | with_reducible assumption | assumption); repeat (first | exact Hp.Le.refl _ | with_reducible assumption | (apply Hp.Le.tr; with_reducible assumption)))
        | (apply LR.up; (first | with_reducible assumption | assumption); repeat (first | exact Hp.Le.refl _ | with_reducible assumption | (apply Hp.Le.tr; with_reducible assumption)))
        | (apply GG.mono; (first | with_reducible assumption | assumption); repeat (first | exact Hp.Le.refl _ | with_reducible assumption | (apply Hp.Le.tr; with_reducible assumption)))
        | (apply MS.mono; (first | with_reducible assumption | assumption); repeat (first | exact Hp.Le.refl _ | with_reducible assumption | (apply Hp.Le.tr; with_reducible assumption)))
        | exact fun _ => ⟨_, _, rfl⟩
        | exact fun h => absurd h (Nat.lt_irrefl 0)
        | assumption))) : C ∧ allLook l env ∧ ∃ R, Split H M R := h
theorem loop_forget (ws : List Nat) (sl : σ → List (Nat × Value)) (Hf : σ → List HProp) (C : σ → Prop) (μ : σ → Nat) (s0 : σ)
    (hc : isLoop (codeAt root p) = true) (h1 : allLook (sl s0) env0) (h2 : ConvH H0 (Hf s0)) (h3 : C s0)
    (body : ∀ s, C s → ∀ j : Nat → Value, force (Hf s) fun H => fillK j ws env0 fun env => setK (sl s) env fun env => vcAt P root n (0 :: p) (loopQ (RoundStep ws sl Hf (fun s _ => C s) μ env0 K0 (μ s)) Q) env K0 H) :
    CStep P root n p env0 K0 H0 Q := by
  refine ⟨CodeStep.mk fun Γ w s => ?_⟩
  obtain ⟨c, e⟩ : ∃ c, codeAt root p = .loop c := by
    cases hx : codeAt root p <;> simp [hx, isLoop] at hc
    exact ⟨_, rfl⟩
  have e0 : codeAt root (0 :: p) = c := by simp [codeAt, e, sub]
  rw [e]
  clear hc
  exact by
    refine wp_loop_ghost (fun n a w => ∃ s env, μ s = n ∧ C s ∧ a = act env ∧ allLook (sl s) env ∧ fillJ (fun _ => undef) ws env = fillJ (fun _ => undef) ws env0 ∧ Sat Γ K0 (Hf s) w) (μ s0)
      ⟨s0, env0, rfl, h3, rfl, h1, rfl, s.conv h2⟩ ?_
    rintro n a w ⟨s, env, rfl, hc, rfl, hl, hb, hs⟩
    have hbody := body s hc (look env)
    rw [force_eq, fillK_eq, setK_eq, fillJ_look hb, setL_same _ _ hl] at hbody
    have hb2 := vcAt_sound root n (0 :: p) _ env K0 (Hf s) hbody
    rw [e0] at hb2
    refine wp_mono (hb2.elim Γ w hs) fun e a' w' hq => ?_
    cases e with
    | normal =>
      obtain ⟨env', K', H', rfl, hr, hs'⟩ := hq
      simp only [loopQ] at hr
      obtain ⟨s', K'', g1, g2, g3, g4, g5, g6⟩ := hr.out Γ w' hs'
      exact ⟨μ s', g1, s', env', rfl, g2, rfl, g4, g5, g6.forget g3⟩
    | _ => exact hq
theorem lD (ws ix : List Nat) (cs : Nat → List (Nat × Value)) (sl : σ → List (Nat × Value)) (N : σ → List HProp) (C : σ → Prop) (E : Nat → σ → Prop) (X : σ → Prop) (μ : Nat → Nat) (i0 : Nat) (s0 : σ) {id : Nat}
    (hm : E i0 s0)
    (h : pkK ix H0 fun L => (C s0 ∧ allLook (cs i0 ++ sl s0) env0 ∧ ∃ R, Split H0 (N s0 ++ L) R) ∧
      (∀ i s, C s → E i s → ∀ j : Nat → Value, force (N s ++ L) fun H => fillK j ws env0 fun env => setK (cs i ++ sl s) env fun env =>
        vcAt P root n (0 :: 0 :: p) (loopQ (RoundStep ws (fun z : Nat × σ => cs z.1 ++ sl z.2) (fun z => N z.2 ++ L) (fun z _ => C z.2 ∧ E z.1 z.2) (fun z => μ z.1) env0 K0 (μ i))
          (blockQ id (loopQ (MeetStep ws sl (fun s => N s ++ L) (fun s _ => C s ∧ X s) env0 K0) Q))) env K0 H) ∧
      ∀ s, C s → X s → ∀ j : Nat → Value, force (N s ++ L) fun H => fillK j ws env0 fun env => setK (sl s) env fun env => Q .normal env K0 H)
    (hb : isBlock (codeAt root p) = some id := by rfl) (hl : isLoop (codeAt root (0 :: p)) = true := by rfl) : CStep P root n p env0 K0 H0 Q := by
  obtain ⟨L, ⟨h1, h2, R, h3⟩, h4, h5⟩ := pkK_ex h
  refine cut_forget ws sl (fun s => N s ++ L) (fun s => C s ∧ X s) (block_cs hb ?_) fun s hc => h5 s hc.1 hc.2
  refine loop_forget (σ := Nat × σ) ws (fun z => cs z.1 ++ sl z.2) (fun z => N z.2 ++ L) (fun z => C z.2 ∧ E z.1 z.2) (fun z => μ z.1) (i0, s0) hl h2 (ConvH.of h3) ⟨h1, hm⟩ ?_
  rintro ⟨i, s⟩ ⟨hc, he⟩ j
  exact h4 i s hc he j
end
end
end Go.SL
