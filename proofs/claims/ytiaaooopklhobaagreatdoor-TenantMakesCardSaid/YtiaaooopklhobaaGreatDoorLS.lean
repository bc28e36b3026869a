/- The library: facts about walks, over any program. -/
import Derived.Test.YtiaaooopklhobaaGreatDoorLR
import Derived.Lib.LaidTab
set_option linter.unusedVariables false
set_option linter.unusedSimpArgs false
set_option linter.unusedSectionVars false
namespace Go.SL
open Go
section
variable {P : Program} {α : Type} {enc : α → List Value} {K : Hp} {H H' : List HProp}
theorem qvb {l : List α} {i : Int} {x : α} {n : Nat} (hl : l.length = n) (h0 : 0 ≤ i) (hk : l[i.toNat]? = some x) : i < (n : Int) := by
 have := (List.getElem?_eq_some_iff.1 hk).1
 omega
theorem qrt {l : List α} {sz i o : Nat} {x : α} (hs : ∀ y, (enc y).length = sz) (hx : l[i]? = some x) (ho : o < sz) : (l.map enc).flatten[i * sz + o]? = (enc x)[o]? := by
 induction l generalizing i with
 | nil => cases hx
 | cons y l ih =>
  cases i with
  | zero =>
   cases hx
   rw [List.map_cons, List.flatten_cons, Nat.zero_mul, Nat.zero_add, List.getElem?_append_left (by rw [hs]; exact ho)]
  | succ i =>
   rw [List.map_cons, List.flatten_cons, List.getElem?_append_right (by rw [hs, Nat.succ_mul]; omega), hs]
   rw [show (i + 1) * sz + o - sz = i * sz + o by rw [Nat.succ_mul]; omega]
   exact ih (by simpa using hx)
theorem qwn {t b off sz : Nat} {T : TypeId} {cs : List Value} {l : List α} {i : Nat} {x : α} {c : Value → Prop} (hr : Rem (Cells b T cs) H H') (ht : tyShape P t = some (some sz))
  (hd : cs.drop off = (l.map enc).flatten) (hx : l[i]? = some x) (hs : (fun y => (enc y).length) = fun _ => sz) (h : c (.agg (enc x).toArray)) : RStepS P (.load t (.pointer (some ⟨b, off + i * sz, none⟩))) K H c := by
 have hs' : ∀ y, (enc y).length = sz := fun y => congrFun hs y
 refine ⟨_, fun Γ w s => ?_, h⟩
 have hb := (s.rem hr).blk
 have := qbs (P := P) (a := ⟨b, off + i * sz, none⟩) (w := w) ht (hs' x) (fun j v hj => by
  have hj' : j < sz := by rw [← hs' x]; exact (List.getElem?_eq_some_iff.1 hj).1
  rw [qbj, qd3 hb]
  have h1 := qrt hs' hx hj'
  rw [← hd, List.getElem?_drop] at h1
  rw [Nat.add_assoc, h1]; exact hj)
 simp [M.sem, Instr.loadAt, Instr.sureAddr, this]
theorem qdd : ∀ (off : Nat) (vs cs : List Value), off + vs.length ≤ cs.length → splice off vs cs = cs.take off ++ (vs ++ cs.drop (off + vs.length))
 | 0, [], l, _ => by cases l <;> simp [splice]
 | 0, v :: vs, [], h => by simp at h
 | 0, v :: vs, x :: l, h => by
  have := qdd 0 vs l (by simp at h ⊢; omega)
  simp only [splice, this]
  simp
 | i + 1, vs, [], h => by simp at h
 | i + 1, vs, x :: l, h => by
  have := qdd i vs l (by simp at h ⊢; omega)
  simp only [splice, this]
  rw [show i + 1 + vs.length = (i + vs.length) + 1 by omega]
  simp
theorem qpv {l : List α} {sz : Nat} (hs : ∀ y, (enc y).length = sz) : (l.map enc).flatten.length = l.length * sz := by
 induction l with
 | nil => simp
 | cons y l ih => simp [hs, ih, Nat.succ_mul]; omega
theorem qru {l : List α} {sz i : Nat} {x y : α} (hs : ∀ y, (enc y).length = sz) (hx : l[i]? = some x) :
  (l.map enc).flatten.take (i * sz) ++ (enc y ++ (l.map enc).flatten.drop (i * sz + sz)) = ((l.set i y).map enc).flatten := by
 induction l generalizing i with
 | nil => cases hx
 | cons z l ih =>
  cases i with
  | zero =>
   simp only [Nat.zero_mul, List.take_zero, List.nil_append, Nat.zero_add, List.map_cons, List.flatten_cons, List.set_cons_zero]
   rw [List.drop_append_of_le_length (by rw [hs]; exact Nat.le_refl _), List.drop_of_length_le (by rw [hs]; exact Nat.le_refl _), List.nil_append]
  | succ i =>
   simp only [List.map_cons, List.flatten_cons, List.set_cons_succ]
   rw [← ih (by simpa using hx)]
   have e1 : (i + 1) * sz = (enc z).length + i * sz := by rw [hs, Nat.succ_mul]; omega
   have e2 : (i + 1) * sz + sz = (enc z).length + (i * sz + sz) := by rw [e1]; omega
   rw [e2, e1, List.take_length_add_append, List.drop_length_add_append, List.append_assoc]
theorem qpw {t b off n : Nat} {T : TypeId} {cs cs' vs : List Value} {v : Value} {c : VP} (hr : Rem (Cells b T cs) H H') (ht : qbc P t = some n) (hv : v.cells.toList = vs) (ho : (Nat.beq n vs.length && allOne vs) = true) (hl : off + n ≤ cs.length)
  (hs : cs.take off ++ (vs ++ cs.drop (off + n)) = cs') (h : c undef K (Cells b T cs' :: H')) : WStep P (.store t (.pointer (some ⟨b, off, none⟩)) v) K H c := by
 simp only [Bool.and_eq_true] at ho
 have hn : n = vs.length := Nat.eq_of_beq_eq_true ho.1
 refine qaa hr ht ?_
 rw [qbm, qa9, hv]
 refine ⟨hn, ho.2, hl, ?_⟩
 rw [qdd _ _ _ (by rw [← hn]; exact hl), ← hn, hs]
 exact h
theorem qwo {t b off sz i : Nat} {T : TypeId} {cs cs' ys : List Value} {l : List α} {x y : α} {c : VP} (hr : Rem (Cells b T cs) H H') (ht : qbc P t = some sz)
  (hd : cs.drop off = (l.map enc).flatten) (hx : l[i]? = some x) (hy : enc y = ys) (hs : ∀ y, (enc y).length = sz) (ho : ∀ y, allOne (enc y) = true) (hc : cs' = cs.take off ++ ((l.set i y).map enc).flatten) (hz : 0 < sz)
  (h : c undef K (Cells b T cs' :: H')) : WStep P (.store t (.pointer (some ⟨b, off + i * sz, none⟩)) (.agg ys.toArray)) K H c := by
 subst hy
 have hlen : off + i * sz + sz ≤ cs.length := by
  have h1 := qpv (l := l) hs
  rw [← hd, List.length_drop] at h1
  have h2 := (List.getElem?_eq_some_iff.1 hx).1
  have h3 : (i + 1) * sz ≤ l.length * sz := Nat.mul_le_mul_right _ h2
  rw [Nat.succ_mul] at h3
  omega
 refine qpw hr ht (vs := enc y) (by simp [Value.cells]) (by simp [hs, ho]) hlen ?_ h
 rw [hc, ← qru hs hx, ← hd, List.drop_drop, List.take_add, List.append_assoc, Nat.add_assoc]
abbrev qgv (b : Nat) (T : TypeId) (pre post cs : List Value) : HProp := Cells b T (pre ++ (cs ++ post))
theorem qle {pre post cs : List Value} {j : Nat} {v : Value} (h : cs[j]? = some v) : (pre ++ (cs ++ post))[pre.length + j]? = some v := by
 rw [List.getElem?_append_right (by omega), Nat.add_sub_cancel_left, List.getElem?_append_left (List.getElem?_eq_some_iff.1 h).1]
 exact h
theorem qc6 {s b j f o j' : Nat} {pre : List Value} {c : Value → Prop} (ho : qez P s f = some o) (hj : j + o = j') (h : c (.pointer (some ⟨b, pre.length + j', none⟩))) : NStep P (.fieldAddr s (.pointer (some ⟨b, pre.length + j, none⟩)) f) c := by
 refine JeA ho ?_
 rw [qck, Nat.add_assoc, hj]
 exact h
theorem qpx {pre post : List Value} : ∀ (j : Nat) (vs cs : List Value), j + vs.length ≤ cs.length → splice (pre.length + j) vs (pre ++ (cs ++ post)) = pre ++ (splice j vs cs ++ post) := by
 intro j vs cs h
 rw [qdd _ _ _ (by simp; omega), qdd _ _ _ h, List.take_append, List.take_of_length_le (by omega), Nat.add_sub_cancel_left, List.take_append_of_le_length (by omega), Nat.add_assoc, List.drop_append, List.drop_of_length_le (by omega), List.nil_append, Nat.add_sub_cancel_left, List.drop_append_of_le_length h]
 simp
theorem qen {t b j n : Nat} {T : TypeId} {pre post cs : List Value} {v : Value} {c : VP} (hr : Rem (qgv b T pre post cs) H H') (ht : qbc P t = some n)
  (h : cellsL v fun vs => n = vs.length ∧ allOne vs = true ∧ j + n ≤ cs.length ∧ qbx (splice j vs cs) fun cs' => c undef K (qgv b T pre post cs' :: H')) : WStep P (.store t (.pointer (some ⟨b, pre.length + j, none⟩)) v) K H c := by
 refine qaa hr ht ?_
 rw [qbm, qa9] at h ⊢
 obtain ⟨h1, h2, h3, h4⟩ := h
 refine ⟨h1, h2, by simp; omega, ?_⟩
 rw [qpx _ _ _ (by rw [← h1]; exact h3)]
 exact h4
theorem ci1 {b : Nat} {T : TypeId} {cs pre suf : List Value} (hr : Rem (Cells b T cs) H H') (he : cs = pre ++ suf) : CIn [(b, pre)] H := by
 intro Γ K w s q hq
 obtain rfl := List.mem_singleton.1 hq
 have hb := (s.rem hr).blk
 exact ⟨_, _, _, hb, fun j v hv => by
  subst he
  have := (List.getElem?_eq_some_iff.1 hv).1
  simpa [List.getElem?_append_left this] using hv⟩
theorem qpy {t b off n : Nat} {pre : List Value} {d : DrI} {c : Value → Prop} (hm : (b, pre) ∈ d.cin) (ht : tyShape P t = some (some n))
  (hl : off + n ≤ pre.length) (h : qe5 n fun n => qbx (cut off n pre) fun vs => c (.agg vs.toArray)) : LStep P (.load t (.pointer (some ⟨b, off, none⟩))) d c := by
 rw [qck, qa9] at h
 refine ⟨.agg (cut off n pre).toArray, fun w hi => ?_, h⟩
 obtain ⟨cc, T, fz, hb, hc⟩ := hi.2.2 _ hm
 have hlen : (cut off n pre).length = n := by rw [qg6]; simp; omega
 have := qbs (P := P) (a := ⟨b, off, none⟩) (w := w) ht hlen (fun j v hj => by
  rw [qbj]
  rw [qg6] at hj
  simp only [List.getElem?_take, List.getElem?_drop] at hj
  split at hj
  ·simp only [World.cell?, hb]; exact hc _ v hj
  ·cases hj)
 simp [M.sem, Instr.loadAt, Instr.sureAddr, this]
theorem qjk {pl : List (Nat × Nat)} {k : List Value → Prop} {tl : List Value} : ∀ (ps : List (Nat × Value)) (acc : List Value), buildK pl ps acc (fun cs => k (cs ++ tl)) → buildK pl ps (acc ++ tl) k
 | [], acc, h => by
  simp only [buildK, qa9] at h ⊢; exact h
 | (i, v) :: rest, acc, h => by
  simp only [buildK] at h ⊢
  have nth : ∀ (ql : List (Nat × Nat)) (j : Nat) (q q' : Nat × Nat → Prop), (∀ x, q x → q' x) → qti ql j q → qti ql j q' := by
   intro ql
   induction ql with
   | nil => intro j q q' _ h; exact h
   | cons y ql ih => intro j q q' hq h; cases j with
    | zero => exact hq _ h
    | succ j => exact ih j q q' hq h
  refine nth _ _ _ _ (fun p hp => ?_) h
  rw [qbm] at hp ⊢
  rcases condP_true hp with ⟨e, hp⟩ | ⟨_, hp⟩
  ·simp only [Bool.and_eq_true, decide_eq_true_eq] at e
   refine qnc (by simp only [Bool.and_eq_true, decide_eq_true_eq, List.length_append]; omega) ?_
   rw [qa9] at hp ⊢
   have hs : splice p.1 v.cells.toList (acc ++ tl) = splice p.1 v.cells.toList acc ++ tl := by
    rw [qdd _ _ _ (by simp only [List.length_append]; omega), qdd _ _ _ e.2, List.take_append_of_le_length (by omega), List.drop_append_of_le_length e.2]
    simp
   rw [hs]
   exact qjk rest _ hp
  ·exact hp.elim
theorem qom {t : TypeId} {parts : List (Nat × Value)} {c : Value → Prop} (z0 : List Value) (l : List α) (hz : qbk P t = some (.agg (z0 ++ (l.map enc).flatten).toArray)) (hst : match P.underlying t with | some (.struct fs) => fs.toList.all fun f => (qbc P f.type).isSome | _ => false)
  (h : buildK (qkz P t) parts z0 fun cs => c (.agg (cs ++ (l.map enc).flatten).toArray)) : NStep P (.build t parts) c :=
 qak hz hst (qjk (k := fun cs => c (.agg cs.toArray)) parts z0 h)
theorem qrv {t : TypeId} {cs : List Value} {c : VP} (h : ∀ b, c (.pointer (some ⟨b, 0, none⟩)) K (Cells b t cs :: H)) : WStep P (.box t (.agg cs.toArray)) K H c :=
 qar fun b => by rw [qbm]; exact h b
theorem qrw {W : World} {name : String} {g t e n : Nat} {k : IntKind} {zs : List Int} {rest : List (String × DataW Unit)} (hg : P.globalNamed name = some g) (hty : (P.globals[g]?).map (·.type) = some t) (ht : P.underlying t = some (.array n e)) (he : P.underlying e = some (.int k)) (hce : P.cellsOf e = 1) (hct : P.cellsOf t = n)
  (h : LV P W ((name, Lib.tabData k zs) :: rest)) : GlA g (zs.map fun z => Value.int k z) (old W) := by
 obtain ⟨ps, ⟨g', t', cs, fuel, p, q, hg', ht', hvar, hd, _, _⟩⟩ := h
 obtain rfl := Option.some.inj (hg.symm.trans hg')
 obtain rfl := Option.some.inj (hty.symm.trans ht')
 have hc := Lib.cells_of_tab ht he hce hct hd
 unfold World.var? at hvar
 rw [hg] at hvar
 simp only [qx0] at hvar
 cases hw : W.heap[g]? with
 | none => rw [hw] at hvar; cases hvar
 | some o =>
  rw [hw] at hvar
  cases o with
  | cells c T fz =>
   simp only [Option.some.injEq] at hvar
   subst hvar
   exact ⟨T, fz, by rw [← hc]; exact hw⟩
  | _ => cases hvar
end
open Go
section
variable {P : Program}
variable {K : Hp} {H H' : List HProp} {α : Type} {enc : α → List Value} {a : Option Addr} {t tx e ty sz cap : Nat} {l new : List α} {cs : Array Bool}
theorem RdC.clip (h : RdC enc K a cap sz l) : RdC enc K a l.length sz l := ⟨h.rd, Nat.le_refl _⟩
end
open Go
class RpI {α : Type} (n : outParam Nat) (R : Rp α) : Prop where
 ok : qha n R
instance {α : Type} {enc : α → List Value} {sz : Nat} : RpI 1 (qv6 enc sz) := ⟨qtq⟩
instance {α : Type} {R : Rp α} {sz : Nat} [h : RpI sz R] : RpI 1 (qxb R sz) := ⟨qtr h.ok⟩
instance {α : Type} : RpI 1 (hdR (α := α)) := ⟨qu7⟩
theorem LiC.up {α : Type} {R : Rp α} {n m : Nat} [i : RpI m R] {K K' : Hp} {a : Option Addr} {cap : Nat} {l : List α} (e : m = n) (h : LiC R K a cap n l) (hk : K.Le K') : LiC R K' a cap n l :=
 LiC.mono (e ▸ i.ok) hk h
theorem LR.up {α : Type} {R : Rp α} {m : Nat} [i : RpI m R] {K K' : Hp} {css : List (List Value)} {l : List α} (h : LR R K css l) (hk : K.Le K') : LR R K' css l := LR.mono i.ok hk h
theorem Hp.Le.tr {a b c : Hp} (k : b.Le c) (h : a.Le b) : a.Le c := h.trans k
theorem ql {a b : Hp} (h : a.Le b := by repeat (first | exact Hp.Le.refl _ | with_reducible assumption | (apply Hp.Le.tr; with_reducible assumption))) : a.Le b := h
theorem qf {X : Prop} (h : X := by
  repeat' (first
   | with_reducible assumption
   | with_reducible refine And.intro ?_ ?_
   | exact rfl
   | exact trivial
   | exact RdC.nil
   | exact LiC.nil
   | exact LR.nil
   | (apply RdC.mono; (first | with_reducible assumption | assumption); repeat (first | exact Hp.Le.refl _ | with_reducible assumption | (apply Hp.Le.tr; with_reducible assumption)))
   | (apply LiC.up rfl; (first | with_reducible assumption | assumption); repeat (first | exact Hp.Le.refl _ | with_reducible assumption | (apply Hp.Le.tr; with_reducible assumption)))
   | (apply LR.up; (first | with_reducible assumption | assumption); repeat (first | exact Hp.Le.refl _ | with_reducible assumption | (apply Hp.Le.tr; with_reducible assumption)))
   | (apply GG.mono; (first | with_reducible assumption | assumption); repeat (first | exact Hp.Le.refl _ | with_reducible assumption | (apply Hp.Le.tr; with_reducible assumption)))
   | (apply MS.mono; (first | with_reducible assumption | assumption); repeat (first | exact Hp.Le.refl _ | with_reducible assumption | (apply Hp.Le.tr; with_reducible assumption)))
   | exact fun _ => ⟨_, _, rfl⟩
   | exact fun h => absurd h (Nat.lt_irrefl 0)
   | assumption)) : X := h
theorem qs {H M L : List HProp} (h : Split H M L := by first | ((repeat (first | with_reducible exact Rem.here | with_reducible apply Rem.there | with_reducible exact Split.nil | apply Split.cons)); done) | (repeat (first | exact Rem.here | apply Rem.there | exact Split.nil | apply Split.cons))) : Split H M L := h
section
variable {P : Program}
theorem Sat.forget {Γ : World} {K K' : Hp} {H : List HProp} {w : World} (h : K.Le K') (s : Sat Γ K' H w) : Sat Γ K H w :=
 ⟨s.os, s.tape, s.output, fun i o e => s.know i o (h i o e), let ⟨p, d, x, y⟩ := s.heap; ⟨p, d.mono h (.refl _), x, y⟩⟩
theorem EndStep.m {K0 : Hp} {F : HProp} {R : VP} {v : Value} {K : Hp} {H H' L L' : List HProp} (h2 : R v K H') (h1 : K0.Le K) (h3 : Split H H' L) (h4 : Rem F L L') : EndStep K0 F R v K H :=
 EndStep.mk H' h1 h2 fun x hx => by
  have h := h3.sep hx
  obtain ⟨p, q, d, l1, l2, a, b⟩ := SepL.parts h
  obtain ⟨p', q', d', l1', l2', a', b'⟩ := h4.sep b
  exact SepL.flat (d.mono (.refl _) l1') l1 (l1'.trans l2) a ⟨p', fun _ => none, fun _ => .inr rfl, .refl _, Hp.emp_le _, a', trivial⟩
theorem er {R S β : Type} {x : R} {s : Fl R S} {f : R → Option β} {g : S → Option β} {r : β} (h1 : some (Fl.ret x) = some s) (h2 : s.el f g = some r) : f x = some r := by
 cases h1; exact h2
theorem eE {β : Type} {x r : β} {K0 : Hp} {F : HProp} {R : VP} {v : Value} {K : Hp} {H : List HProp} (hm : some x = some r)
  (h : x = r → EndStep K0 F R v K H := by
   rintro rfl
   apply EndStep.m
   repeat' (first
     | with_reducible apply Exists.intro
     | with_reducible apply And.intro
     | exact rfl)
   all_goals try ((repeat (first | with_reducible exact Rem.here | with_reducible apply Rem.there | with_reducible exact Split.nil | apply Split.cons)); done)
   all_goals try ((repeat (first | exact Rem.here | apply Rem.there | exact Split.nil | apply Split.cons)); done)
   all_goals try (repeat (first | exact Hp.Le.refl _ | with_reducible assumption | (apply Hp.Le.tr; with_reducible assumption)))
   all_goals try (repeat' (first
    | with_reducible assumption
    | with_reducible refine And.intro ?_ ?_
    | exact rfl
    | exact trivial
    | exact RdC.nil
    | exact LiC.nil
    | exact LR.nil
    | (apply RdC.mono; (first | with_reducible assumption | assumption); repeat (first | exact Hp.Le.refl _ | with_reducible assumption | (apply Hp.Le.tr; with_reducible assumption)))
    | (apply LiC.up rfl; (first | with_reducible assumption | assumption); repeat (first | exact Hp.Le.refl _ | with_reducible assumption | (apply Hp.Le.tr; with_reducible assumption)))
    | (apply LR.up; (first | with_reducible assumption | assumption); repeat (first | exact Hp.Le.refl _ | with_reducible assumption | (apply Hp.Le.tr; with_reducible assumption)))
    | (apply GG.mono; (first | with_reducible assumption | assumption); repeat (first | exact Hp.Le.refl _ | with_reducible assumption | (apply Hp.Le.tr; with_reducible assumption)))
    | (apply MS.mono; (first | with_reducible assumption | assumption); repeat (first | exact Hp.Le.refl _ | with_reducible assumption | (apply Hp.Le.tr; with_reducible assumption)))
    | exact fun _ => ⟨_, _, rfl⟩
    | exact fun h => absurd h (Nat.lt_irrefl 0)
    | assumption))) : EndStep K0 F R v K H := h (si hm)
theorem bq {c e : Bool} (q : c = e) : Value.bool c = Value.bool e := by rw [q]
theorem bE {c e : Bool} (q : c = e) {K0 : Hp} {F : HProp} {R : VP} {K : Hp} {H : List HProp} (h : EndStep K0 F R (.bool e) K H) : EndStep K0 F R (.bool c) K H := by rw [q]; exact h
theorem cS {β : Type} {b : Bool} {A B : Prop} {X Y : Option β} {r : β} (hm : (if b = true then X else Y) = some r) (h1 : b = true → X = some r → A) (h2 : b = false → Y = some r → B) : qdu b A B :=
 qaf (fun h => h1 h (ift h hm)) (fun h => h2 h (qbd h hm))
theorem qk {d : DrI} {K : Hp} {H : List HProp} {B : Prop} (c : ConvH H (d.priv.map fun p => Blk p.1 p.2)) (h : B) (k : d.K.Le K := by repeat (first | exact Hp.Le.refl _ | with_reducible assumption | (apply Hp.Le.tr; with_reducible assumption))) (hc : d.cin = [] := by rfl) : d.Keep K H ∧ B :=
 ⟨⟨k, c, hc ▸ ci0⟩, h⟩
section
variable {σ : Type} {ws : List Nat} {sl : σ → List (Nat × Value)} {Hf : σ → List HProp} {C : σ → Hp → Prop} {μ : σ → Nat} {env0 : List Value} {K0 : Hp} {m : Nat} {env : List Value} {K : Hp} {H : List HProp}
theorem eM {β : Type} {x y : β} (hm : some x = some y) (s : σ)
  (h : x = y → C s K ∧ qbr (sl s) env ∧ K0.Le K ∧ ∃ L, Split H (Hf s) L := by
   intro hm
   refine And.intro ?_ (And.intro ?_ (And.intro ?_ (Exists.intro ?_ ?_)))
   all_goals try (repeat' (with_reducible apply And.intro))
   all_goals try (first | exact hm | exact hm.symm)
   all_goals try (repeat (first | exact trivial | refine And.intro rfl ?_))
   all_goals try ((repeat (first | with_reducible exact Rem.here | with_reducible apply Rem.there | with_reducible exact Split.nil | apply Split.cons)); done)
   all_goals try ((repeat (first | exact Rem.here | apply Rem.there | exact Split.nil | apply Split.cons)); done)
   all_goals try (repeat (first | exact Hp.Le.refl _ | with_reducible assumption | (apply Hp.Le.tr; with_reducible assumption)))
   all_goals try (repeat' (first
    | with_reducible assumption
    | with_reducible refine And.intro ?_ ?_
    | exact rfl
    | exact trivial
    | exact RdC.nil
    | exact LiC.nil
    | exact LR.nil
    | (apply RdC.mono; (first | with_reducible assumption | assumption); repeat (first | exact Hp.Le.refl _ | with_reducible assumption | (apply Hp.Le.tr; with_reducible assumption)))
    | (apply LiC.up rfl; (first | with_reducible assumption | assumption); repeat (first | exact Hp.Le.refl _ | with_reducible assumption | (apply Hp.Le.tr; with_reducible assumption)))
    | (apply LR.up; (first | with_reducible assumption | assumption); repeat (first | exact Hp.Le.refl _ | with_reducible assumption | (apply Hp.Le.tr; with_reducible assumption)))
    | (apply GG.mono; (first | with_reducible assumption | assumption); repeat (first | exact Hp.Le.refl _ | with_reducible assumption | (apply Hp.Le.tr; with_reducible assumption)))
    | (apply MS.mono; (first | with_reducible assumption | assumption); repeat (first | exact Hp.Le.refl _ | with_reducible assumption | (apply Hp.Le.tr; with_reducible assumption)))
    | exact fun _ => ⟨_, _, rfl⟩
    | exact fun h => absurd h (Nat.lt_irrefl 0)
    | assumption))) (h2 : sbA ws 0 env = sbB ws 0 env0 := by rfl) : MeetStep ws sl Hf C env0 K0 env K H :=
 let ⟨h6, h1, h4, _, h3⟩ := h (si hm); mt s h1 h2 (ConvH.of h3) h4 h6
theorem eMq {β : Type} {x y : β} (hm : some x = some y) (s : σ) (h1 : qbr (sl s) env)
  (h : x = y → C s K ∧ K0.Le K ∧ ∃ L, Split H (Hf s) L := by
   intro hm
   refine And.intro ?_ (And.intro ?_ (Exists.intro ?_ ?_))
   all_goals try (repeat' (with_reducible apply And.intro))
   all_goals try (first | exact hm | exact hm.symm)
   all_goals try ((repeat (first | with_reducible exact Rem.here | with_reducible apply Rem.there | with_reducible exact Split.nil | apply Split.cons)); done)
   all_goals try ((repeat (first | exact Rem.here | apply Rem.there | exact Split.nil | apply Split.cons)); done)
   all_goals try (repeat (first | exact Hp.Le.refl _ | with_reducible assumption | (apply Hp.Le.tr; with_reducible assumption)))
   all_goals try (repeat' (first
    | with_reducible assumption
    | with_reducible refine And.intro ?_ ?_
    | exact rfl
    | exact trivial
    | exact RdC.nil
    | exact LiC.nil
    | exact LR.nil
    | (apply RdC.mono; (first | with_reducible assumption | assumption); repeat (first | exact Hp.Le.refl _ | with_reducible assumption | (apply Hp.Le.tr; with_reducible assumption)))
    | (apply LiC.up rfl; (first | with_reducible assumption | assumption); repeat (first | exact Hp.Le.refl _ | with_reducible assumption | (apply Hp.Le.tr; with_reducible assumption)))
    | (apply LR.up; (first | with_reducible assumption | assumption); repeat (first | exact Hp.Le.refl _ | with_reducible assumption | (apply Hp.Le.tr; with_reducible assumption)))
    | (apply GG.mono; (first | with_reducible assumption | assumption); repeat (first | exact Hp.Le.refl _ | with_reducible assumption | (apply Hp.Le.tr; with_reducible assumption)))
    | (apply MS.mono; (first | with_reducible assumption | assumption); repeat (first | exact Hp.Le.refl _ | with_reducible assumption | (apply Hp.Le.tr; with_reducible assumption)))
    | exact fun _ => ⟨_, _, rfl⟩
    | exact fun h => absurd h (Nat.lt_irrefl 0)
    | assumption))) (h2 : sbA ws 0 env = sbB ws 0 env0 := by rfl) : MeetStep ws sl Hf C env0 K0 env K H :=
 let ⟨h6, h4, _, h3⟩ := h (si hm); mt s h1 h2 (ConvH.of h3) h4 h6
theorem eMt (s : σ) (h1 : qbr (sl s) env)
  (h : C s K ∧ K0.Le K ∧ ∃ L, Split H (Hf s) L := by
   refine And.intro ?_ (And.intro ?_ (Exists.intro ?_ ?_))
   all_goals try ((repeat (first | with_reducible exact Rem.here | with_reducible apply Rem.there | with_reducible exact Split.nil | apply Split.cons)); done)
   all_goals try ((repeat (first | exact Rem.here | apply Rem.there | exact Split.nil | apply Split.cons)); done)
   all_goals try (repeat (first | exact Hp.Le.refl _ | with_reducible assumption | (apply Hp.Le.tr; with_reducible assumption)))
   all_goals try (repeat' (first
    | with_reducible assumption
    | with_reducible refine And.intro ?_ ?_
    | exact rfl
    | exact trivial
    | exact RdC.nil
    | exact LiC.nil
    | exact LR.nil
    | (apply RdC.mono; (first | with_reducible assumption | assumption); repeat (first | exact Hp.Le.refl _ | with_reducible assumption | (apply Hp.Le.tr; with_reducible assumption)))
    | (apply LiC.up rfl; (first | with_reducible assumption | assumption); repeat (first | exact Hp.Le.refl _ | with_reducible assumption | (apply Hp.Le.tr; with_reducible assumption)))
    | (apply LR.up; (first | with_reducible assumption | assumption); repeat (first | exact Hp.Le.refl _ | with_reducible assumption | (apply Hp.Le.tr; with_reducible assumption)))
    | (apply GG.mono; (first | with_reducible assumption | assumption); repeat (first | exact Hp.Le.refl _ | with_reducible assumption | (apply Hp.Le.tr; with_reducible assumption)))
    | (apply MS.mono; (first | with_reducible assumption | assumption); repeat (first | exact Hp.Le.refl _ | with_reducible assumption | (apply Hp.Le.tr; with_reducible assumption)))
    | exact fun _ => ⟨_, _, rfl⟩
    | exact fun h => absurd h (Nat.lt_irrefl 0)
    | assumption))) (h2 : sbA ws 0 env = sbB ws 0 env0 := by rfl) : MeetStep ws sl Hf C env0 K0 env K H :=
 let ⟨h6, h4, _, h3⟩ := h; mt s h1 h2 (ConvH.of h3) h4 h6
theorem eR {M : Prop} (hm : M) (s : σ)
  (h : M → C s K ∧ qbr (sl s) env ∧ K0.Le K ∧ μ s < m ∧ ∃ L, Split H (Hf s) L := by
   intro hm
   refine And.intro ?_ (And.intro ?_ (And.intro ?_ (And.intro ?_ (Exists.intro ?_ ?_))))
   all_goals try (repeat' (with_reducible apply And.intro))
   all_goals try (first | exact hm | (refine (?_ : _ = _); dsimp only; exact hm) | (refine And.intro ?_ (?_ : _ = _) <;> dsimp only; exact hm.1; exact hm.2))
   all_goals try (repeat (first | exact trivial | refine And.intro rfl ?_))
   all_goals try ((repeat (first | with_reducible exact Rem.here | with_reducible apply Rem.there | with_reducible exact Split.nil | apply Split.cons)); done)
   all_goals try ((repeat (first | exact Rem.here | apply Rem.there | exact Split.nil | apply Split.cons)); done)
   all_goals try (first | exact Nat.lt_succ_self _ | (apply ltm; first | with_reducible assumption | assumption) | (apply qup; first | with_reducible assumption | assumption))
   all_goals try (repeat (first | exact Hp.Le.refl _ | with_reducible assumption | (apply Hp.Le.tr; with_reducible assumption)))
   all_goals try (repeat' (first
    | with_reducible assumption
    | with_reducible refine And.intro ?_ ?_
    | exact rfl
    | exact trivial
    | exact RdC.nil
    | exact LiC.nil
    | exact LR.nil
    | (apply RdC.mono; (first | with_reducible assumption | assumption); repeat (first | exact Hp.Le.refl _ | with_reducible assumption | (apply Hp.Le.tr; with_reducible assumption)))
    | (apply LiC.up rfl; (first | with_reducible assumption | assumption); repeat (first | exact Hp.Le.refl _ | with_reducible assumption | (apply Hp.Le.tr; with_reducible assumption)))
    | (apply LR.up; (first | with_reducible assumption | assumption); repeat (first | exact Hp.Le.refl _ | with_reducible assumption | (apply Hp.Le.tr; with_reducible assumption)))
    | (apply GG.mono; (first | with_reducible assumption | assumption); repeat (first | exact Hp.Le.refl _ | with_reducible assumption | (apply Hp.Le.tr; with_reducible assumption)))
    | (apply MS.mono; (first | with_reducible assumption | assumption); repeat (first | exact Hp.Le.refl _ | with_reducible assumption | (apply Hp.Le.tr; with_reducible assumption)))
    | exact fun _ => ⟨_, _, rfl⟩
    | exact fun h => absurd h (Nat.lt_irrefl 0)
    | assumption))) (h2 : sbA ws 0 env = sbB ws 0 env0 := by rfl) : RoundStep ws sl Hf C μ env0 K0 m env K H :=
 let ⟨h6, h1, h4, h5, _, h3⟩ := h hm; rd s h1 h2 (ConvH.of h3) h4 h5 h6
end
theorem cb {α β : Type} {m : Option α} {f : α → Option β} {r : β} {S : Prop} (h : m.bind f = some r) (k : ∀ x, m = some x → f x = some r → S) : S :=
 let ⟨x, a, b⟩ := bnd h; k x a b
section
variable {f : FuncId} {args : List Value} {K : Hp} {H M L M' : List HProp} {R c : VP} {V : Value} {X : Prop}
theorem qfj (hf : Fn P f args K M R) (hs : Split H M L) (h : ∀ v K' H', R v K' H' → c v K (H' ++ L)) : CallStep P f args K H c := by
 refine ⟨hf.1, fun Γ w s => (hf.2 (qou L) Γ w (s.split hs).glue).mono ?_⟩
 rintro e w' ⟨v, K', H', rfl, g1, g2, g3⟩
 exact ⟨v, K, H' ++ L, rfl, (g3.unglue).forget g1, h v K' H' g2⟩
theorem ck0 (hf : Fn P f args K M R) (h : ∀ v K' H', R v K' H' → c v K (H' ++ L)) (hs : Split H M L := by exact qs) : CallStep P f args K H c := qfj hf hs h
theorem cg0 (hf : Fn P f args K M fun v _ H' => v = V ∧ H' = M') (h : c V K (M' ++ L)) (hs : Split H M L := by exact qs) : CallStep P f args K H c :=
 qfj hf hs fun _ _ _ ⟨e1, e2⟩ => by subst e1 e2; exact h
theorem cfx (hf : X → Fn P f args K M R) (h : ∀ v K' H', K.Le K' → R v K' H' → c v K' (H' ++ L)) (hx : X := by exact qf) (hs : Split H M L := by exact qs) : CallStep P f args K H c := qtd (hf hx) hs h
theorem ckx (hf : X → Fn P f args K M R) (h : ∀ v K' H', R v K' H' → c v K (H' ++ L)) (hx : X := by exact qf) (hs : Split H M L := by exact qs) : CallStep P f args K H c := qfj (hf hx) hs h
theorem cgx (hf : X → Fn P f args K M fun v _ H' => v = V ∧ H' = M') (h : c V K (M' ++ L)) (hx : X := by exact qf) (hs : Split H M L := by exact qs) : CallStep P f args K H c := cg0 (hf hx) h hs
end
def ntK : List HProp → Nat → (HProp → Prop) → Prop
 | [], _, _ => False
 | a :: _, 0, k => k a
 | _ :: l, n + 1, k => ntK l n k
def pkK : List Nat → List HProp → (List HProp → Prop) → Prop
 | [], _, k => k []
 | i :: is, H, k => ntK H i fun A => pkK is H fun L => k (A :: L)
theorem qst : ∀ {H : List HProp} {i : Nat} {k : HProp → Prop}, ntK H i k → ∃ A, k A
 | [], _, _, h => h.elim
 | a :: _, 0, _, h => ⟨a, h⟩
 | _ :: l, n + 1, k, h => qst (H := l) h
theorem qnn : ∀ {is : List Nat} {H : List HProp} {k : List HProp → Prop}, pkK is H k → ∃ L, k L
 | [], _, _, h => ⟨[], h⟩
 | i :: is, H, k, h => let ⟨A, h⟩ := qst h; let ⟨L, h⟩ := qnn h; ⟨A :: L, h⟩
section
variable {σ : Type} {root : Code} {n : Nat} {p : List Nat} {env0 : List Value} {K0 : Hp} {H0 : List HProp} {Q : Exit → KP}
theorem qgw (ws : List Nat) (sl : σ → List (Nat × Value)) (Hf : σ → List HProp) (C : σ → Prop)
  (first : CStep P root n p env0 K0 H0 (qfw (MeetStep ws sl Hf (fun s _ => C s) env0 K0) Q))
  (rest : ∀ s, C s → ∀ j : Nat → Value, qbx (Hf s) fun H => qfs j ws env0 fun env => qne (sl s) env fun env => Q .normal env K0 H) :
  CStep P root n p env0 K0 H0 Q :=
 ⟨CodeStep.mk fun Γ w s => wp_mono (first.out.elim Γ w s) fun e a' w' hq => by
  cases e with
  | normal =>
   obtain ⟨env', K', H', rfl, hr, hs'⟩ := hq
   simp only [qfw] at hr
   obtain ⟨s', K'', g2, g3, g4, g5, g6⟩ := hr.out Γ w' hs'
   have := rest s' g2 (look env')
   rw [qa9, qft, qh6, qey g5, qeh _ _ g4] at this
   exact ⟨env', K0, Hf s', rfl, this, g6.forget g3⟩
  | _ => exact hq⟩
theorem jD (ws ix : List Nat) (sl : σ → List (Nat × Value)) (N : σ → List HProp) (C : σ → Prop)
  (h : pkK ix H0 fun L => CStep P root n p env0 K0 H0 (qfw (MeetStep ws sl (fun s => N s ++ L) (fun s _ => C s) env0 K0) Q) ∧
   ∀ s, C s → ∀ j : Nat → Value, qbx (N s ++ L) fun H => qfs j ws env0 fun env => qne (sl s) env fun env => Q .normal env K0 H) : CStep P root n p env0 K0 H0 Q :=
 let ⟨_, h1, h2⟩ := qnn h; qgw ws sl _ C h1 h2
theorem jR (ws : List Nat) (sl : σ → List (Nat × Value)) (C : σ → Prop)
  (h1 : CStep P root n p env0 K0 H0 (qfw (MeetStep ws sl (fun _ => H0) (fun s _ => C s) env0 K0) Q))
  (h2 : ∀ s, C s → ∀ j : Nat → Value, qfs j ws env0 fun env => qne (sl s) env fun env => Q .normal env K0 H0) : CStep P root n p env0 K0 H0 Q :=
 qgw ws sl (fun _ => H0) C h1 fun s hc j => by rw [qa9]; exact h2 s hc j
end
section
variable {σ : Type} {root : Code} {n : Nat} {p : List Nat} {env0 : List Value} {K0 : Hp} {H0 : List HProp} {Q : Exit → KP}
theorem qno {id : Nat} (hc : qgq (codeAt root p) = some id) {env : List Value} {K : Hp} {H : List HProp} (h : CStep P root n (0 :: p) env K H (qi5 id Q)) : CStep P root n p env K H Q := by
 refine ⟨CodeStep.mk fun Γ w s => ?_⟩
 obtain ⟨c, e⟩ : ∃ c, codeAt root p = .block id c := by
  cases hx : codeAt root p <;> simp [hx, qgq] at hc
  subst hc; exact ⟨_, rfl⟩
 have e0 : codeAt root (0 :: p) = c := by simp [codeAt, e, sub]
 have h0 := h.out
 rw [e0] at h0
 rw [e]
 refine wp_block (wp_mono (h0.elim Γ w s) fun e a w hq => ?_)
 cases e with
 | exit id' =>
  obtain ⟨env', K', H', rfl, hq, s'⟩ := hq
  simp only [qi5] at hq
  simp only [Exit.inBlock]
  split
  ·rename_i e; subst e
   rcases condP_true hq with ⟨_, hq⟩ | ⟨e, _⟩
   ·exact ⟨env', K', H', rfl, hq, s'⟩
   ·simp at e
  ·rename_i e
   rcases condP_true hq with ⟨e', _⟩ | ⟨_, hq⟩
   ·exact absurd (by simpa using e') e
   ·exact ⟨env', K', H', rfl, hq, s'⟩
 | normal => exact hq
 | ret => exact hq
 | goto l => exact hq.elim
 | panic c => exact hq.elim
 | outgrown => exact hq.elim
theorem qe {C : Prop} {l : List (Nat × Value)} {env : List Value} {H M : List HProp} (h : C ∧ qbr l env ∧ ∃ R, Split H M R := by
   refine And.intro ?_ (And.intro ?_ (Exists.intro ?_ ?_))
   all_goals try (repeat' (with_reducible apply And.intro))
   all_goals try (repeat (first | exact trivial | refine And.intro rfl ?_))
   all_goals try ((repeat (first | with_reducible exact Rem.here | with_reducible apply Rem.there | with_reducible exact Split.nil | apply Split.cons)); done)
   all_goals try ((repeat (first | exact Rem.here | apply Rem.there | exact Split.nil | apply Split.cons)); done)
   all_goals try (repeat' (first
    | with_reducible assumption
    | with_reducible refine And.intro ?_ ?_
    | exact rfl
    | exact trivial
    | exact RdC.nil
    | exact LiC.nil
    | exact LR.nil
    | (apply RdC.mono; (first | with_reducible assumption | assumption); repeat (first | exact Hp.Le.refl _ | with_reducible assumption | (apply Hp.Le.tr; with_reducible assumption)))
    | (apply LiC.up rfl; (first | with_reducible assumption | assumption); repeat (first | exact Hp.Le.refl _ | with_reducible assumption | (apply Hp.Le.tr; with_reducible assumption)))
    | (apply LR.up; (first | with_reducible assumption | assumption); repeat (first | exact Hp.Le.refl _ | with_reducible assumption | (apply Hp.Le.tr; with_reducible assumption)))
    | (apply GG.mono; (first | with_reducible assumption | assumption); repeat (first | exact Hp.Le.refl _ | with_reducible assumption | (apply Hp.Le.tr; with_reducible assumption)))
    | (apply MS.mono; (first | with_reducible assumption | assumption); repeat (first | exact Hp.Le.refl _ | with_reducible assumption | (apply Hp.Le.tr; with_reducible assumption)))
    | exact fun _ => ⟨_, _, rfl⟩
    | exact fun h => absurd h (Nat.lt_irrefl 0)
    | assumption))) : C ∧ qbr l env ∧ ∃ R, Split H M R := h
theorem qmq (ws : List Nat) (sl : σ → List (Nat × Value)) (Hf : σ → List HProp) (C : σ → Prop) (μ : σ → Nat) (s0 : σ)
  (hc : qi8 (codeAt root p) = true) (h1 : qbr (sl s0) env0) (h2 : ConvH H0 (Hf s0)) (h3 : C s0)
  (body : ∀ s, C s → ∀ j : Nat → Value, qbx (Hf s) fun H => qfs j ws env0 fun env => qne (sl s) env fun env => qoa P root n (0 :: p) (qfw (RoundStep ws sl Hf (fun s _ => C s) μ env0 K0 (μ s)) Q) env K0 H) :
  CStep P root n p env0 K0 H0 Q := by
 refine ⟨CodeStep.mk fun Γ w s => ?_⟩
 obtain ⟨c, e⟩ : ∃ c, codeAt root p = .loop c := by
  cases hx : codeAt root p <;> simp [hx, qi8] at hc
  exact ⟨_, rfl⟩
 have e0 : codeAt root (0 :: p) = c := by simp [codeAt, e, sub]
 rw [e]
 clear hc
 exact by
  refine wp_loop_ghost (fun n a w => ∃ s env, μ s = n ∧ C s ∧ a = act env ∧ qbr (sl s) env ∧ qc7 (fun _ => undef) ws env = qc7 (fun _ => undef) ws env0 ∧ Sat Γ K0 (Hf s) w) (μ s0)
   ⟨s0, env0, rfl, h3, rfl, h1, rfl, s.conv h2⟩ ?_
  rintro n a w ⟨s, env, rfl, hc, rfl, hl, hb, hs⟩
  have hbody := body s hc (look env)
  rw [qa9, qft, qh6, qey hb, qeh _ _ hl] at hbody
  have hb2 := qb7 root n (0 :: p) _ env K0 (Hf s) hbody
  rw [e0] at hb2
  refine wp_mono (hb2.elim Γ w hs) fun e a' w' hq => ?_
  cases e with
  | normal =>
   obtain ⟨env', K', H', rfl, hr, hs'⟩ := hq
   simp only [qfw] at hr
   obtain ⟨s', K'', g1, g2, g3, g4, g5, g6⟩ := hr.out Γ w' hs'
   exact ⟨μ s', g1, s', env', rfl, g2, rfl, g4, g5, g6.forget g3⟩
  | _ => exact hq
theorem lC (ws ix : List Nat) (cs : Nat → List (Nat × Value)) (sl : σ → List (Nat × Value)) (N : σ → List HProp) (C : σ → Hp → Prop) (E : Nat → σ → Prop) (X : σ → Prop) (μ : Nat → Nat) (i0 : Nat) (s0 : σ) {id : Nat}
  (hm : E i0 s0)
  (h : pkK ix H0 fun L => (C s0 K0 ∧ qbr (cs i0 ++ sl s0) env0 ∧ ∃ R, Split H0 (N s0 ++ L) R) ∧
   (∀ i s K, K0.Le K → C s K → E i s → ∀ j : Nat → Value, qbx (N s ++ L) fun H => qfs j ws env0 fun env => qne (cs i ++ sl s) env fun env =>
    qoa P root n (0 :: 0 :: p) (qfw (RoundStep ws (fun z : Nat × σ => cs z.1 ++ sl z.2) (fun z => N z.2 ++ L) (fun z K => C z.2 K ∧ E z.1 z.2) (fun z => μ z.1) env0 K0 (μ i))
     (qi5 id (qfw (MeetStep ws sl (fun s => N s ++ L) (fun s K => C s K ∧ X s) env0 K0) Q))) env K H) ∧
   ∀ s K, K0.Le K → C s K → X s → ∀ j : Nat → Value, qbx (N s ++ L) fun H => qfs j ws env0 fun env => qne (sl s) env fun env => Q .normal env K H)
  (hb : qgq (codeAt root p) = some id := by rfl) (hl : qi8 (codeAt root (0 :: p)) = true := by rfl) : CStep P root n p env0 K0 H0 Q := by
 obtain ⟨L, ⟨h1, h2, R, h3⟩, h4, h5⟩ := qnn h
 refine qq5 ws sl (fun s => N s ++ L) (fun s K => C s K ∧ X s) (qno hb ?_) fun s K hk hc => h5 s K hk hc.1 hc.2
 refine qo4 (σ := Nat × σ) ws (fun z => cs z.1 ++ sl z.2) (fun z => N z.2 ++ L) (fun z K => C z.2 K ∧ E z.1 z.2) (fun z => μ z.1) (i0, s0) hl h2 (ConvH.of h3) ⟨h1, hm⟩ ?_
 rintro ⟨i, s⟩ K hk ⟨hc, he⟩ j
 exact h4 i s K hk hc he j
theorem lD (ws ix : List Nat) (cs : Nat → List (Nat × Value)) (sl : σ → List (Nat × Value)) (N : σ → List HProp) (C : σ → Prop) (E : Nat → σ → Prop) (X : σ → Prop) (μ : Nat → Nat) (i0 : Nat) (s0 : σ) {id : Nat}
  (hm : E i0 s0)
  (h : pkK ix H0 fun L => (C s0 ∧ qbr (cs i0 ++ sl s0) env0 ∧ ∃ R, Split H0 (N s0 ++ L) R) ∧
   (∀ i s, C s → E i s → ∀ j : Nat → Value, qbx (N s ++ L) fun H => qfs j ws env0 fun env => qne (cs i ++ sl s) env fun env =>
    qoa P root n (0 :: 0 :: p) (qfw (RoundStep ws (fun z : Nat × σ => cs z.1 ++ sl z.2) (fun z => N z.2 ++ L) (fun z _ => C z.2 ∧ E z.1 z.2) (fun z => μ z.1) env0 K0 (μ i))
     (qi5 id (qfw (MeetStep ws sl (fun s => N s ++ L) (fun s _ => C s ∧ X s) env0 K0) Q))) env K0 H) ∧
   ∀ s, C s → X s → ∀ j : Nat → Value, qbx (N s ++ L) fun H => qfs j ws env0 fun env => qne (sl s) env fun env => Q .normal env K0 H)
  (hb : qgq (codeAt root p) = some id := by rfl) (hl : qi8 (codeAt root (0 :: p)) = true := by rfl) : CStep P root n p env0 K0 H0 Q := by
 obtain ⟨L, ⟨h1, h2, R, h3⟩, h4, h5⟩ := qnn h
 refine qgw ws sl (fun s => N s ++ L) (fun s => C s ∧ X s) (qno hb ?_) fun s hc => h5 s hc.1 hc.2
 refine qmq (σ := Nat × σ) ws (fun z => cs z.1 ++ sl z.2) (fun z => N z.2 ++ L) (fun z => C z.2 ∧ E z.1 z.2) (fun z => μ z.1) (i0, s0) hl h2 (ConvH.of h3) ⟨h1, hm⟩ ?_
 rintro ⟨i, s⟩ ⟨hc, he⟩ j
 exact h4 i s hc he j
end
end
end Go.SL
