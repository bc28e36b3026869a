/- The library: facts about walks, over any program. -/
import Derived.Test.YtiaaooopklhobaaGreatDoorLG
import Derived.ProofKit
import Derived.OpenShut
import Derived.Carry
set_option linter.unusedVariables false
set_option linter.unusedSimpArgs false
set_option linter.unusedSectionVars false
namespace Go.SL
open Go Go.ChangeShapes Go.WideShapes Go.ChangeAt Go.RowKit
section
variable {P : Program} {α : Type} {Bd : Nat}
abbrev qa1 : Nat := 140737488351232
def RdrA (Bd : Nat) (P : Program) (t : TypeId) (R : Rp α) : Prop := ∀ m, Rdr Bd P m t R
theorem RdrA.int {t : TypeId} {k : IntKind} (ht : P.underlying t = some (.int k)) : RdrA Bd P t (fun _ cs x => cs = eI k x ∧ InK k x) := fun m => Rdr.int ht
theorem RdrA.u8 {t : TypeId} (ht : P.underlying t = some (.int .u8)) : RdrA Bd P t (fun _ cs x => cs = eU x ∧ True) := fun m H enc w sp held fuel cs x hf h hz => by
 obtain ⟨n, e, hn⟩ := Rdr.int (m := m) ht enc w sp held fuel cs x hf h hz
 refine ⟨qj5 n, ?_, trivial⟩
 have h1 := quu n
 simp only [InK] at hn
 rw [show n % 256 = n from by omega] at h1
 rw [e, eU, ← h1]
theorem RdrA.bool {t : TypeId} (ht : P.underlying t = some .bool) : RdrA Bd P t (fun _ cs x => cs = eB x ∧ True) := fun m H enc w sp held fuel cs x hf h hz =>
 let ⟨b, e⟩ := Rdr.bool (m := m) ht enc w sp held fuel cs x hf h hz; ⟨b, e, trivial⟩
theorem RdrA.str {t : TypeId} (ht : P.underlying t = some .string) : RdrA Bd P t (fun _ cs x => cs = eS x ∧ x.length ≤ Bd) := fun m H enc w sp held fuel cs x hf h hz => by
 obtain ⟨s, e, hx, _⟩ := DataW.trod_string ht h
 refine ⟨s.data.toList, by simp [e, eS, SL.str], hz s.data.toList.length ?_⟩
 rw [hx]; simp [DataW.weights]
theorem RdrA.slr {t e sz : Nat} {R : Rp α} (ht : P.underlying t = some (.slice e)) (hsz : P.cellsOf e = sz) (h0 : Nat.ble 1 sz = true) (hR : qha sz R) (hr : RdrA Bd P e R) : RdrA Bd P t (slR sz R) := fun m => by
 cases m with
 | zero =>
  intro H enc w sp held fuel cs x hf h hz
  have : fuel = 0 := by omega
  subst this; simp [DataW.trod] at h
 | succ m => exact Rdr.slice ht hsz (Nat.le_of_ble_eq_true h0) hR (hr m)
theorem qxo {enc : α → List Value} {sz : Nat} {ok : α → Prop} (h1 : ∀ x, (enc x).length = sz) (h2 : ∀ x, allOne (enc x) = true) : qha sz (fun (_ : Hp) cs x => cs = enc x ∧ ok x) :=
 ⟨fun _ h => h, fun h => by rw [h.1]; exact h1 _, fun h v hv => qbn (h2 _) v (by rw [← h.1]; exact hv)⟩
theorem RdrA.sl {t e sz : Nat} {enc : α → List Value} {ok : α → Prop} (ht : P.underlying t = some (.slice e)) (hsz : P.cellsOf e = sz) (h0 : Nat.ble 1 sz = true) (h1 : ∀ x, (enc x).length = sz) (h2 : ∀ x, allOne (enc x) = true)
  (hr : RdrA Bd P e (fun _ cs x => cs = enc x ∧ ok x)) (hby : Nat.ble 1 (P.bytesOf e) = true) : RdrA Bd P t (fun K cs l => qv6 enc sz K cs l ∧ (l.length ≤ Bd ∧ ∀ x ∈ l, ok x)) := fun m H en w sp held fuel cs x hf h hz => by
 obtain ⟨l, a, cap, e1, e2, e3, e4⟩ := RdrA.slr ht hsz h0 (qxo h1 h2) hr m en w sp held fuel cs x hf h hz
 refine ⟨l, ⟨a, cap, e1, ?_, e2⟩, qtl ht hby h hz e1, fun y hy => ?_⟩
 ·exact LiR.flat (enc := enc) (fun K cs a h => h.1) e4
 ·obtain ⟨i, hi⟩ := List.getElem?_of_mem hy
  obtain ⟨css, c, _, _, h3⟩ := e4.get hi
  exact h3.2
theorem qod {H : Type} {enc : TypeId × Value → H} {w : World} {sp : Nat → Bool} {held : Bool} {fuel n : Nat} {t : TypeId} {cs : List Value} {x : DataW H × List MemPlace} {fs : Array Field}
  (ht : P.underlying t = some (.struct fs)) (hn : P.cellsOf t = n) (h : DataW.trod enc P w 0 sp held fuel t cs = some x) (hz : qtk Bd P t x.1) :
  cs.length = n ∧ ∀ (i off sz : Nat) (ft : TypeId) {β : Type} {R : Rp β}, (match fs[i]? with | some f => f.offset = off ∧ f.type = ft ∧ P.cellsOf f.type = sz | none => False) → RdrA Bd P ft R → ∃ a, R (old w) ((cs.drop off).take sz) a := by
 have := qpb (m := fuel) ht (by omega) h hz
 refine ⟨by rw [this.1, hn], fun i off sz ft β R hf hr => ?_⟩
 split at hf
 ·rename_i f hfi
  obtain ⟨rfl, rfl, rfl⟩ := hf
  exact this.2 i f hfi (hr fuel)
 ·exact hf.elim
theorem qrd {H : Type} {enc : TypeId × Value → H} {w : World} {sp : Nat → Bool} {held : Bool} {t : Nat} {v : Value} {d : DataW H} {ps : List MemPlace} {R : Rp α} (hr : RdrA Bd P t R)
  (hd : DataW.Trod enc P w 0 sp held t v d ps) (hz : qtk Bd P t d) : ∃ x, R (old w) v.cells.toList x :=
 let ⟨fuel, hf⟩ := hd; hr fuel enc w sp held fuel _ _ (Nat.le_refl _) hf hz
theorem qwh {H : Type} {ts : List TypeId} {ds : List (DataW H)} (h : (DataW.weightsEach P ts ds).all (· ≤ reachBytes) = true) (j : Nat) {t : TypeId} {d : DataW H} (ht : ts[j]? = some t) (hd : ds[j]? = some d) : qtk qa1 P t d := fun n hn => by
 have h1 : n ≤ reachBytes := of_decide_eq_true (List.all_eq_true.1 h _ (DataW.weights_mem_each ht hd n hn))
 exact h1
def qxe (P : Program) (t : TypeId) : Bool := match P.underlying t with
 | some (.struct _) | some (.array _ _) => true
 | _ => false
theorem qux {w : World} {r : Reach} {b0 t : Nat} {v c : Value} (ht : qxe P t = false) (hv : Value.okWide P w r b0 t v) (hc : v.cells.toList = [c]) : v = c := by
 cases v with
 | agg cs =>
  exfalso
  unfold qxe at ht
  unfold Value.okWide at hv
  split at hv
  ·rename_i fs h; simp [h] at ht
  ·rename_i n e h; simp [h] at ht
  ·unfold Cell.okWide Cell.ok at hv
   split at hv <;> first | (rename_i h; cases h; done) | skip
   split at hv <;> simp_all
 | _ => simpa [Value.cells] using hc
theorem qf4 {H : Type} {enc : TypeId × Value → H} {W W' : World} (hl : laidOutB P = true) (hb : Below W.heap.size W W') : ∀ {ts : List TypeId} {vs : List Value} {ds : List (DataW H)} {ps : List MemPlace},
  (ts.all fun t => P.readableRec t && decide (t < P.types.size)) = true → DataW.TrodAll enc P W 0 (fun _ => true) true ts vs ds ps → (∀ x ∈ ps, x.block < W.heap.size) →
  DataW.TrodAll enc P W' 0 (fun b => decide (b < W.heap.size)) true ts vs ds ps
 | [], vs, ds, ps, _, h, _ => by
  cases vs <;> cases ds <;> simp_all [DataW.TrodAll]
 | t :: ts, vs, ds, ps, ht, h, hlt => by
  simp only [List.all_cons, Bool.and_eq_true, decide_eq_true_eq] at ht
  obtain ⟨v, vs', d, ds', p, q, rfl, rfl, rfl, h0, h1⟩ := trodAll_cons h
  exact trodAll_cons_mk (Below.trod hl ht.1.1 ht.1.2 h0 hb fun x hx => hlt x (List.mem_append_left _ hx)) (qf4 hl hb ht.2 h1 fun x hx => hlt x (List.mem_append_right _ hx))
theorem qoe {f : FuncId} {args : List Value} {w : World} {v : Value} (h : Fn P f args (old w) [] (fun r K' H' => r = v ∧ H' = [])) :
  Calls P f args.toArray w fun e w' => e = .returned v ∧ Below w.heap.size w w' := qo9 (h.mono fun v K' H' _ h => h.1)
end
open Go
section
variable {P : Program} {K : Hp} {H H' : List HProp} {α : Type} {enc : α → List Value} {a : Option Addr} {t tx e ty sz cap : Nat} {l new : List α} {cs : Array Bool} {c : Value → Prop}
theorem CStep.ownLe {root : Code} {n : Nat} {p : List Nat} {env : List Value} {Q : Exit → KP} (hr : Rem (OwnL enc a e sz cap l) H H') (h : l.length ≤ cap → CStep P root n p env K H Q) : CStep P root n p env K H Q :=
 CStep.conv fun Γ w s => ⟨K, H, s, h (by simpa using (s.rem hr).ownLen)⟩
theorem qts {t e n : Nat} {lo hi : Option Int} (ht : P.underlying t = some (.slice e)) (hsz : qbc P e = some sz) (hn : n = l.length) (hcap : l.length ≤ cap) (hb : 0 ≤ loI lo ∧ loI lo ≤ hiI l.length hi ∧ hiI l.length hi ≤ l.length)
  (h : c (.slice (subA a cap (loI lo).toNat sz) (subL l (loI lo) (hiI l.length hi)).length (cap - (loI lo).toNat))) : NStep P (.slice t (.slice a n cap) (vI lo) (vI hi) none) c :=
 qrb ht hsz hn (hn ▸ hcap) hb h
theorem Sat.unk {Γ : World} {K : Hp} {b : Nat} {o : Obj} {H : List HProp} {w : World} (s : Sat Γ K (Blk b o :: H) w) : K b = none := by
 obtain ⟨h, d, ⟨h1, h2, d12, l1, l2, a, rest⟩, y⟩ := s.heap
 have hbh : h b = some o := l1 b o a
 rcases d b with x | x
 ·exact x
 ·rw [hbh] at x; cases x
theorem Sat.thaw {Γ : World} {K K2 : Hp} {b : Nat} {o : Obj} {H : List HProp} {w : World} (hk : K.Le K2) (hb : K b = none) (hb2 : K2 b = some o) (s : Sat Γ K2 H w) : ∃ K3 : Hp, K.Le K3 ∧ Sat Γ K3 (Blk b o :: H) w := by
 obtain ⟨h, d, rest, y⟩ := s.heap
 have hhb : h b = none := by
  rcases d b with x | x
  ·rw [hb2] at x; cases x
  ·exact x
 have hdj : (Hp.one b o).Disj h := fun i => by
  by_cases e : i = b
  ·subst e; exact .inr hhb
  ·exact .inl (by simp [Hp.one, e])
 refine ⟨fun i => if i = b then Option.none else K2 i, fun i o' hi => ?_, s.os, s.tape, s.output, fun i o' hi => ?_, Hp.join (Hp.one b o) h, fun i => ?_, ⟨Hp.one b o, h, hdj, Hp.Le.joinL _ _, Hp.Le.joinR hdj, by simp [Blk, Hp.one], rest⟩, fun i u hi => ?_⟩
 ·have : i ≠ b := fun e => by subst e; rw [hb] at hi; cases hi
  simp [this, hk i o' hi]
 ·by_cases e : i = b
  ·simp [e] at hi
  ·simp only [e, if_false] at hi; exact s.know i o' hi
 ·by_cases e : i = b
  ·exact .inl (by simp [e])
  ·rcases d i with x | x
   ·exact .inl (by simp [e, x])
   ·exact .inr (by simp [Hp.join, Hp.one, e, x])
 ·by_cases e : i = b
  ·subst e
   simp [Hp.join, Hp.one] at hi
   subst hi; exact s.know _ _ hb2
  ·simp [Hp.join, Hp.one, e] at hi
   exact y i u hi
theorem Fn.lendA {f : FuncId} {args : List Value} {M : List HProp} {R : VP} {css : List (List Value)} (hc : ∀ a w, (callFunc f a).run P w = .ok (.enter f a) w) (hK : ∀ v K1 K2 H', R v K1 H' → R v K2 H')
  (h : ∀ K', K.Le K' → RdS K' a sz css → css.length ≤ cap → Fn P f args K' M R) : Fn P f args K (OwnA a e sz cap css :: M) (fun v K' H' => ∃ H0, H' = OwnA a e sz cap css :: H0 ∧ R v K' H0) := by
 refine ⟨hc, fun F Γ w s => ?_⟩
 have s' : Sat Γ K (OwnA a e sz cap css :: (M ++ [F])) w := s
 have hle := s'.ownLen
 obtain ⟨hl, ho, ⟨rfl, rfl, rfl, s0⟩ | ⟨b, cur, fz, hfz, rfl, k1, k2, k3, k4, s0⟩⟩ := s'.own
 ·refine ((h K (.refl _) .nil hle).2 F Γ w s0).mono ?_
  rintro e' w' ⟨v, K', H', rfl, g1, g2, g3⟩
  exact ⟨v, K', _, rfl, g1, ⟨H', rfl, g2⟩, g3.mkNil⟩
 ·have hb := s0.unk
  obtain ⟨K', h1, h2, h3⟩ := s0.freeze
  refine ((h K' h1 ⟨hl, ho, fun _ => ⟨b, 0, cur.toList.toArray, e, fz, rfl, by simpa using h2, fun i v hv => by simpa using k4 i v hv⟩⟩ k2).2 F Γ w h3).mono ?_
  rintro e' w' ⟨v, K2, H', rfl, g1, g2, g3⟩
  obtain ⟨K3, q1, q2⟩ := g3.thaw (h1.trans g1) hb (g1 _ _ h2)
  exact ⟨v, K3, _, rfl, q1, ⟨H', rfl, hK v K2 K3 H' g2⟩, q2.mkOwnF hfz hl ho k1 k2 k3 k4⟩
theorem Fn.lend {f : FuncId} {args : List Value} {M : List HProp} {R : VP} (hc : ∀ a w, (callFunc f a).run P w = .ok (.enter f a) w)
  (h : ∀ K', K.Le K' → RdC enc K' a cap sz l → Fn P f args K' M R) (hK : ∀ v K1 K2 H', R v K1 H' → R v K2 H') : Fn P f args K (OwnL enc a e sz cap l :: M) (fun v K' H' => ∃ H0, H' = OwnL enc a e sz cap l :: H0 ∧ R v K' H0) :=
 Fn.lendA hc hK fun K' h1 h2 h3 => h K' h1 ⟨h2, by simpa using h3⟩
theorem qbu {α : Type} {l : List α} {i : Nat} {x : α} (h : l[i]? = some x) (hl : l.length ≤ qa1) : InK .i64 ((i : Int) + 1) := by
 have := (List.getElem?_eq_some_iff.1 h).1
 simp only [qa1] at hl
 simp only [InK]; omega
end
end Go.SL
