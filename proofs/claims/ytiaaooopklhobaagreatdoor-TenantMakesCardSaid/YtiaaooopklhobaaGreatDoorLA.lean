/- The library: facts about walks, over any program. -/
import Derived.Calls
import Derived.Below
set_option linter.unusedVariables false
set_option linter.unusedSimpArgs false
set_option linter.unusedSectionVars false
theorem qx0 {α β : Type} {a : α} {f : α → Option β} : (some a).bind f = f a := rfl
theorem qx1 {c : Prop} {h : Decidable c} (n : ¬c) {α : Sort _} {t e : α} : ite c t e = e := if_neg n
theorem qx2 {c : Prop} {h : Decidable c} (n : c) {α : Sort _} {t e : α} : ite c t e = t := if_pos n
namespace Go.SL
open Go
abbrev Hp := Nat → Option Obj
abbrev HProp := Hp → Prop
def Hp.Le (a b : Hp) : Prop := ∀ i o, a i = some o → b i = some o
def Hp.Disj (a b : Hp) : Prop := ∀ i, a i = none ∨ b i = none
def Hp.join (a b : Hp) : Hp := fun i => match a i with | some o => some o | none => b i
def Hp.one (b : Nat) (o : Obj) : Hp := fun i => if i = b then some o else none
theorem Hp.Le.refl (a : Hp) : a.Le a := fun _ _ h => h
theorem Hp.Le.trans {a b c : Hp} (h : a.Le b) (k : b.Le c) : a.Le c := fun i o x => k i o (h i o x)
theorem Hp.Disj.symm {a b : Hp} (h : a.Disj b) : b.Disj a := fun i => (h i).symm
theorem Hp.Disj.mono {a b a' b' : Hp} (h : a.Disj b) (ha : a'.Le a) (hb : b'.Le b) : a'.Disj b' := by
 intro i
 rcases h i with h | h
 ·left
  cases hx : a' i with
  | none => rfl
  | some o => rw [ha i o hx] at h; cases h
 ·right
  cases hx : b' i with
  | none => rfl
  | some o => rw [hb i o hx] at h; cases h
theorem Hp.emp_le (a : Hp) : Hp.Le (fun _ => none) a := fun i o x => by cases x
theorem Hp.Le.joinL (a b : Hp) : a.Le (a.join b) := fun i o h => by simp [Hp.join, h]
theorem Hp.Le.joinR {a b : Hp} (d : a.Disj b) : b.Le (a.join b) := fun i o h => by
 rcases d i with h' | h'
 ·simp [Hp.join, h', h]
 ·rw [h'] at h; cases h
theorem Hp.join_le {a b c : Hp} (h : a.Le c) (k : b.Le c) : (a.join b).Le c := fun i o x => by
 unfold Hp.join at x
 cases hx : a i with
 | none => rw [hx] at x; exact k i o x
 | some u => rw [hx] at x; cases x; exact h i _ hx
theorem Hp.Disj.join {a b c : Hp} (h : a.Disj b) (k : a.Disj c) : a.Disj (b.join c) := fun i => by
 rcases h i with h | h
 ·exact .inl h
 ·rcases k i with k | k
  ·exact .inl k
  ·exact .inr (by simp [Hp.join, h, k])
def SepL : List HProp → Hp → Prop
 | [], _ => True
 | A :: L, h => ∃ h1 h2 : Hp, h1.Disj h2 ∧ h1.Le h ∧ h2.Le h ∧ A h1 ∧ SepL L h2
theorem SepL.mono : ∀ {L : List HProp} {h h' : Hp}, h.Le h' → SepL L h → SepL L h'
 | [], _, _, _, _ => trivial
 | _ :: _, _, _, hl, ⟨h1, h2, d, l1, l2, a, r⟩ => ⟨h1, h2, d, l1.trans hl, l2.trans hl, a, r⟩
inductive Rem (A : HProp) : List HProp → List HProp → Prop
 | here {L} : Rem A (A :: L) L
 | there {B L L'} : Rem A L L' → Rem A (B :: L) (B :: L')
theorem Rem.sep {A : HProp} {L L' : List HProp} (r : Rem A L L') : ∀ {h : Hp}, SepL L h → SepL (A :: L') h := by
 induction r with
 | here => exact fun h => h
 | there r ih =>
  rintro h ⟨h1, h2, d, l1, l2, b, rest⟩
  obtain ⟨h3, h4, d', l3, l4, a, rest'⟩ := ih rest
  refine ⟨h3, h1.join h4, ?_, l3.trans l2, Hp.join_le l1 (l4.trans l2), a, h1, h4, ?_, Hp.Le.joinL _ _, Hp.Le.joinR (d.mono (.refl _) l4), b, rest'⟩
  ·exact Hp.Disj.join (d.symm.mono l3 (.refl _)) d'
  ·exact d.mono (.refl _) l4
theorem Rem.sep' {A : HProp} {L L' : List HProp} (r : Rem A L L') : ∀ {h : Hp}, SepL (A :: L') h → SepL L h := by
 induction r with
 | here => exact fun h => h
 | there r ih =>
  rintro h ⟨h1, h2, d, l1, l2, a, h3, h4, d', l3, l4, b, rest⟩
  refine ⟨h3, h1.join h4, ?_, l3.trans l2, Hp.join_le l1 (l4.trans l2), b, ih ⟨h1, h4, ?_, Hp.Le.joinL _ _, Hp.Le.joinR (d.mono (.refl _) l4), a, rest⟩⟩
  ·exact Hp.Disj.join (d.symm.mono l3 (.refl _)) d'
  ·exact d.mono (.refl _) l4
inductive Split : List HProp → List HProp → List HProp → Prop
 | nil {L} : Split L [] L
 | cons {L A L' M R} : Rem A L L' → Split L' M R → Split L (A :: M) R
theorem Split.sep {L M R : List HProp} (s : Split L M R) : ∀ {h : Hp}, SepL L h → SepL (M ++ R) h := by
 induction s with
 | nil => exact fun h => h
 | cons r s ih =>
  intro h hl
  obtain ⟨h1, h2, d, l1, l2, a, rest⟩ := r.sep hl
  exact ⟨h1, h2, d, l1, l2, a, ih rest⟩
def qou (L : List HProp) : HProp := SepL L
theorem SepL.glue : ∀ {M R : List HProp} {h : Hp}, SepL (M ++ R) h → SepL (M ++ [qou R]) h
 | [], R, h, hr => ⟨h, fun _ => none, fun _ => .inr rfl, .refl _, Hp.emp_le _, hr, trivial⟩
 | A :: M, R, h, ⟨h1, h2, d, l1, l2, a, rest⟩ => ⟨h1, h2, d, l1, l2, a, SepL.glue rest⟩
theorem SepL.unglue : ∀ {M R : List HProp} {h : Hp}, SepL (M ++ [qou R]) h → SepL (M ++ R) h
 | [], R, h, ⟨h1, _, _, l1, _, a, _⟩ => SepL.mono l1 a
 | A :: M, R, h, ⟨h1, h2, d, l1, l2, a, rest⟩ => ⟨h1, h2, d, l1, l2, a, SepL.unglue rest⟩
def Blk (b : Nat) (o : Obj) : HProp := fun h => h b = some o
def qw5 (p : Prop) : HProp := fun _ => p
def Ex {α : Type} (L : α → List HProp) : HProp := fun h => ∃ x, SepL (L x) h
structure Sat (Γ : World) (K : Hp) (H : List HProp) (w : World) : Prop where
 os : w.os = Γ.os
 tape : w.tape = Γ.tape
 output : w.output = Γ.output
 know : ∀ i o, K i = some o → w.heap[i]? = some o
 heap : ∃ h : Hp, K.Disj h ∧ SepL H h ∧ ∀ i o, h i = some o → w.heap[i]? = some o
theorem Sat.conv {Γ : World} {K : Hp} {H H' : List HProp} {w : World} (s : Sat Γ K H w) (c : ∀ h, SepL H h → SepL H' h) : Sat Γ K H' w :=
 ⟨s.os, s.tape, s.output, s.know, let ⟨h, d, x, y⟩ := s.heap; ⟨h, d, c h x, y⟩⟩
theorem Sat.rem {Γ : World} {K : Hp} {A : HProp} {H H' : List HProp} {w : World} (s : Sat Γ K H w) (r : Rem A H H') : Sat Γ K (A :: H') w := s.conv fun _ => r.sep
theorem Sat.split {Γ : World} {K : Hp} {H M R : List HProp} {w : World} (s : Sat Γ K H w) (r : Split H M R) : Sat Γ K (M ++ R) w := s.conv fun _ => r.sep
theorem Sat.blk {Γ : World} {K : Hp} {b : Nat} {o : Obj} {H : List HProp} {w : World} (s : Sat Γ K (Blk b o :: H) w) : w.heap[b]? = some o := by
 obtain ⟨h, d, ⟨h1, h2, _, l1, _, a, _⟩, y⟩ := s.heap
 exact y b o (l1 b o a)
theorem Sat.upd {Γ : World} {K : Hp} {b : Nat} {o o' : Obj} {H : List HProp} {w w' : World} (s : Sat Γ K (Blk b o :: H) w)
  (hos : w'.os = w.os) (ht : w'.tape = w.tape) (ho : w'.output = w.output) (hb : w'.heap[b]? = some o') (hne : ∀ i, i ≠ b → w'.heap[i]? = w.heap[i]?) :
  Sat Γ K (Blk b o' :: H) w' := by
 obtain ⟨h, d, ⟨h1, h2, d12, l1, l2, a, rest⟩, y⟩ := s.heap
 have hbh : h b = some o := l1 b o a
 have hKb : K b = none := by
  rcases d b with x | x
  ·exact x
  ·rw [hbh] at x; cases x
 have h2b : h2 b = none := by
  rcases d12 b with x | x
  ·rw [show h1 b = some o from a] at x; cases x
  ·exact x
 refine ⟨hos.trans s.os, ht.trans s.tape, ho.trans s.output, fun i u hi => ?_, Hp.join (Hp.one b o') h2, ?_, ⟨Hp.one b o', h2, ?_, Hp.Le.joinL _ _, ?_, by simp [Blk, Hp.one], rest⟩, ?_⟩
 ·have : i ≠ b := fun e => by subst e; rw [hKb] at hi; cases hi
  rw [hne i this]; exact s.know i u hi
 ·intro i
  by_cases e : i = b
  ·subst e; exact .inl hKb
  ·rcases d i with x | x
   ·exact .inl x
   ·refine .inr ?_
    simp only [Hp.join, Hp.one, e, if_false]
    cases hx : h2 i with
    | none => rfl
    | some u => rw [l2 i u hx] at x; cases x
 ·intro i
  by_cases e : i = b
  ·subst e; exact .inr h2b
  ·exact .inl (by simp [Hp.one, e])
 ·refine Hp.Le.joinR fun i => ?_
  by_cases e : i = b
  ·subst e; exact .inr h2b
  ·exact .inl (by simp [Hp.one, e])
 ·intro i u hi
  by_cases e : i = b
  ·subst e
   simp [Hp.join, Hp.one] at hi
   subst hi; exact hb
  ·simp only [Hp.join, Hp.one, e, if_false] at hi
   rw [hne i e]
   exact y i u (l2 i u hi)
theorem Sat.new {Γ : World} {K : Hp} {b : Nat} {o : Obj} {H : List HProp} {w w' : World} (s : Sat Γ K H w)
  (hos : w'.os = w.os) (ht : w'.tape = w.tape) (ho : w'.output = w.output) (hb0 : w.heap[b]? = none) (hb : w'.heap[b]? = some o) (hne : ∀ i, i ≠ b → w'.heap[i]? = w.heap[i]?) :
  Sat Γ K (Blk b o :: H) w' := by
 obtain ⟨h, d, rest, y⟩ := s.heap
 have hKb : K b = none := by
  cases hx : K b with
  | none => rfl
  | some u => rw [s.know b u hx] at hb0; cases hb0
 have hbb : h b = none := by
  cases hx : h b with
  | none => rfl
  | some u => rw [y b u hx] at hb0; cases hb0
 have dd : Hp.Disj (Hp.one b o) h := fun i => by
  by_cases e : i = b
  ·subst e; exact .inr hbb
  ·exact .inl (by simp [Hp.one, e])
 refine ⟨hos.trans s.os, ht.trans s.tape, ho.trans s.output, fun i u hi => ?_, Hp.join (Hp.one b o) h, ?_, ⟨Hp.one b o, h, dd, Hp.Le.joinL _ _, Hp.Le.joinR dd, by simp [Blk, Hp.one], rest⟩, ?_⟩
 ·have : i ≠ b := fun e => by subst e; rw [hKb] at hi; cases hi
  rw [hne i this]; exact s.know i u hi
 ·intro i
  by_cases e : i = b
  ·subst e; exact .inl hKb
  ·rcases d i with x | x
   ·exact .inl x
   ·exact .inr (by simp [Hp.join, Hp.one, e, x])
 ·intro i u hi
  by_cases e : i = b
  ·subst e
   simp [Hp.join, Hp.one] at hi
   subst hi; exact hb
  ·simp only [Hp.join, Hp.one, e, if_false] at hi
   rw [hne i e]
   exact y i u hi
theorem Sat.same {Γ : World} {K : Hp} {H : List HProp} {w w' : World} (s : Sat Γ K H w)
  (hos : w'.os = w.os) (ht : w'.tape = w.tape) (ho : w'.output = w.output) (hh : w'.heap = w.heap) : Sat Γ K H w' :=
 ⟨hos.trans s.os, ht.trans s.tape, ho.trans s.output, by rw [hh]; exact s.know, by rw [hh]; exact s.heap⟩
theorem Sat.drew {Γ : World} {K : Hp} {H : List HProp} {w : World} (s : Sat Γ K H w) : Sat Γ K H w.drew := s.same rfl rfl rfl rfl
theorem Sat.fact {Γ : World} {K : Hp} {p : Prop} {H : List HProp} {w : World} (s : Sat Γ K (qw5 p :: H) w) : p ∧ Sat Γ K H w := by
 obtain ⟨h, d, ⟨h1, h2, _, l1, l2, a, rest⟩, y⟩ := s.heap
 exact ⟨a, s.os, s.tape, s.output, s.know, h, d, SepL.mono l2 rest, y⟩
theorem SepL.flat : ∀ {L M : List HProp} {h1 h2 h : Hp}, h1.Disj h2 → h1.Le h → h2.Le h → SepL L h1 → SepL M h2 → SepL (L ++ M) h
 | [], _, _, _, _, _, _, l2, _, m => SepL.mono l2 m
 | A :: L, M, h1, h2, h, d, l1, l2, ⟨h3, h4, d', l3, l4, a, rest⟩, m =>
  ⟨h3, h4.join h2, Hp.Disj.join d' (d.mono l3 (.refl _)), l3.trans l1, Hp.join_le (l4.trans l1) l2, a, SepL.flat (d.mono l4 (.refl _)) (Hp.Le.joinL _ _) (Hp.Le.joinR (d.mono l4 (.refl _))) rest m⟩
theorem SepL.parts : ∀ {L M : List HProp} {h : Hp}, SepL (L ++ M) h → ∃ h1 h2 : Hp, h1.Disj h2 ∧ h1.Le h ∧ h2.Le h ∧ SepL L h1 ∧ SepL M h2
 | [], M, h, m => ⟨fun _ => none, h, fun _ => .inl rfl, Hp.emp_le _, .refl _, trivial, m⟩
 | A :: L, M, h, ⟨h3, h4, d, l3, l4, a, rest⟩ =>
  let ⟨h1, h2, d', l1, l2, x, m⟩ := SepL.parts rest
  ⟨h3.join h1, h2, (Hp.Disj.join (d.symm.mono l2 (.refl _)) d'.symm).symm, Hp.join_le l3 (l1.trans l4), l2.trans l4,
   ⟨h3, h1, d.mono (.refl _) l1, Hp.Le.joinL _ _, Hp.Le.joinR (d.mono (.refl _) l1), a, x⟩, m⟩
theorem Sat.ex {Γ : World} {K : Hp} {α : Type} {L : α → List HProp} {H : List HProp} {w : World} (s : Sat Γ K (Ex L :: H) w) : ∃ x, Sat Γ K (L x ++ H) w := by
 obtain ⟨h, d, ⟨h1, h2, d12, l1, l2, ⟨x, a⟩, rest⟩, y⟩ := s.heap
 exact ⟨x, s.os, s.tape, s.output, s.know, h, d, SepL.flat d12 l1 l2 a rest, y⟩
theorem Sat.drop {Γ : World} {K : Hp} {A : HProp} {H : List HProp} {w : World} (s : Sat Γ K (A :: H) w) : Sat Γ K H w :=
 s.conv fun _ ⟨_, _, _, _, l2, _, r⟩ => SepL.mono l2 r
theorem Sat.freeze {Γ : World} {K : Hp} {b : Nat} {o : Obj} {H : List HProp} {w : World} (s : Sat Γ K (Blk b o :: H) w) :
  ∃ K' : Hp, K.Le K' ∧ K' b = some o ∧ Sat Γ K' H w := by
 obtain ⟨h, d, ⟨h1, h2, d12, l1, l2, a, rest⟩, y⟩ := s.heap
 have hbh : h b = some o := l1 b o a
 have hKb : K b = none := by
  rcases d b with x | x
  ·exact x
  ·rw [hbh] at x; cases x
 have h2b : h2 b = none := by
  rcases d12 b with x | x
  ·rw [show h1 b = some o from a] at x; cases x
  ·exact x
 refine ⟨K.join (Hp.one b o), Hp.Le.joinL _ _, by simp [Hp.join, hKb, Hp.one], s.os, s.tape, s.output, fun i u hi => ?_, h2, fun i => ?_, rest, fun i u hi => y i u (l2 i u hi)⟩
 ·unfold Hp.join at hi
  cases hx : K i with
  | some v => rw [hx] at hi; cases hi; exact s.know i _ hx
  | none =>
   rw [hx] at hi
   simp only [Hp.one] at hi
   split at hi
   ·rename_i e; subst e; cases hi; exact y i _ hbh
   ·cases hi
 ·by_cases e : i = b
  ·subst e; exact .inr h2b
  ·rcases d i with x | x
   ·exact .inl (by simp [Hp.join, x, Hp.one, e])
   ·refine .inr ?_
    cases hx : h2 i with
    | none => rfl
    | some u => rw [l2 i u hx] at x; cases x
def ConvH (H M : List HProp) : Prop := ∀ h, SepL H h → SepL M h
theorem ConvH.refl (H : List HProp) : ConvH H H := fun _ x => x
theorem SepL.cut : ∀ {M R : List HProp} {h : Hp}, SepL (M ++ R) h → SepL M h
 | [], _, _, _ => trivial
 | _ :: _, _, _, ⟨h1, h2, d, l1, l2, a, rest⟩ => ⟨h1, h2, d, l1, l2, a, SepL.cut rest⟩
theorem ConvH.of {H M R : List HProp} (s : Split H M R) : ConvH H M := fun _ x => SepL.cut (s.sep x)
theorem Sat.all_blk {Γ : World} {K : Hp} {w : World} : ∀ {l : List (Nat × Obj)}, Sat Γ K (l.map fun p => Blk p.1 p.2) w → ∀ p ∈ l, w.heap[p.1]? = some p.2
 | [], _, _, hp => by cases hp
 | q :: l, s, p, hp => by
  rcases List.mem_cons.1 hp with rfl | hp
  ·exact s.blk
  ·exact Sat.all_blk (l := l) s.drop p hp
end Go.SL
