/- The frame of a law: arguments of any shape that the readers know are read; behind the call they read as before. -/
import Derived.Test.YtpmdpondlmkojaaSL14
import Derived.ProofKit
import Derived.OpenShut
import Derived.Carry
set_option linter.unusedVariables false
set_option linter.unusedSimpArgs false
namespace Go.SL
open Go Go.ChangeShapes Go.WideShapes Go.ChangeAt Go.RowKit

section
variable {P : Program} {α : Type} {Bd : Nat}
abbrev szMax : Nat := 140737488351232
abbrev szUp : Nat := 536870912
def RdrA (Bd : Nat) (P : Program) (t : TypeId) (R : Rp α) : Prop := ∀ m, Rdr Bd P m t R
theorem RdrA.int {t : TypeId} {k : IntKind} (ht : P.underlying t = some (.int k)) : RdrA Bd P t (fun _ cs x => cs = eI k x ∧ InK k x) := fun m => Rdr.int ht
theorem RdrA.u8 {t : TypeId} (ht : P.underlying t = some (.int .u8)) : RdrA Bd P t (fun _ cs x => cs = eU x ∧ True) := fun m H enc w sp held fuel cs x hf h hz => by
  obtain ⟨n, e, hn⟩ := Rdr.int (m := m) ht enc w sp held fuel cs x hf h hz
  refine ⟨u8of n, ?_, trivial⟩
  have h1 := u8ofI n
  simp only [InK] at hn
  rw [show n % 256 = n from by omega] at h1
  rw [e, eU, ← h1]
theorem RdrA.bool {t : TypeId} (ht : P.underlying t = some .bool) : RdrA Bd P t (fun _ cs x => cs = eB x ∧ True) := fun m H enc w sp held fuel cs x hf h hz =>
  let ⟨b, e⟩ := Rdr.bool (m := m) ht enc w sp held fuel cs x hf h hz; ⟨b, e, trivial⟩
theorem RdrA.str {t : TypeId} (ht : P.underlying t = some .string) : RdrA Bd P t (fun _ cs x => cs = eS x ∧ x.length ≤ Bd) := fun m H enc w sp held fuel cs x hf h hz => by
  obtain ⟨s, e, hx, _⟩ := DataW.trod_string ht h
  refine ⟨s.data.toList, by simp [e, eS, SL.str], hz s.data.toList.length ?_⟩
  rw [hx]; simp [DataW.weights]

theorem RdrA.slr {t e sz : Nat} {R : Rp α} (ht : P.underlying t = some (.slice e)) (hsz : P.cellsOf e = sz) (h0 : Nat.ble 1 sz = true) (hR : RpOK sz R) (hr : RdrA Bd P e R) : RdrA Bd P t (slR sz R) := fun m => by
  cases m with
  | zero =>
    intro H enc w sp held fuel cs x hf h hz
    have : fuel = 0 := by omega
    subst this; simp [DataW.trod] at h
  | succ m => exact Rdr.slice ht hsz (Nat.le_of_ble_eq_true h0) hR (hr m)
theorem flOK {enc : α → List Value} {sz : Nat} {ok : α → Prop} (h1 : ∀ x, (enc x).length = sz) (h2 : ∀ x, allOne (enc x) = true) : RpOK sz (fun (_ : Hp) cs x => cs = enc x ∧ ok x) :=
  ⟨fun _ h => h, fun h => by rw [h.1]; exact h1 _, fun h v hv => allOne_spec (h2 _) v (by rw [← h.1]; exact hv)⟩
/-- Slices of flat data. -/
theorem RdrA.sl {t e sz : Nat} {enc : α → List Value} {ok : α → Prop} (ht : P.underlying t = some (.slice e)) (hsz : P.cellsOf e = sz) (h0 : Nat.ble 1 sz = true) (h1 : ∀ x, (enc x).length = sz) (h2 : ∀ x, allOne (enc x) = true)
    (hr : RdrA Bd P e (fun _ cs x => cs = enc x ∧ ok x)) (hby : Nat.ble 1 (P.bytesOf e) = true) : RdrA Bd P t (fun K cs l => sliL enc sz K cs l ∧ (l.length ≤ Bd ∧ ∀ x ∈ l, ok x)) := fun m H en w sp held fuel cs x hf h hz => by
  obtain ⟨l, a, cap, e1, e2, e3, e4⟩ := RdrA.slr ht hsz h0 (flOK h1 h2) hr m en w sp held fuel cs x hf h hz
  refine ⟨l, ⟨a, cap, e1, ?_, e2⟩, sl_size ht hby h hz e1, fun y hy => ?_⟩
  · exact LiR.flat (enc := enc) (fun K cs a h => h.1) e4
  · obtain ⟨i, hi⟩ := List.getElem?_of_mem hy
    obtain ⟨css, c, _, _, h3⟩ := e4.get hi
    exact h3.2
/-- Slices of data that hold slices. -/
theorem RdrA.slx {t e sz : Nat} {R : Rp α} {ok : α → Prop} (ht : P.underlying t = some (.slice e)) (hsz : P.cellsOf e = sz) (h0 : Nat.ble 1 sz = true) (hR : RpOK sz R)
    (hr : RdrA Bd P e (fun K cs x => R K cs x ∧ ok x)) (hby : Nat.ble 1 (P.bytesOf e) = true) : RdrA Bd P t (fun K cs l => sliR R sz K cs l ∧ (l.length ≤ Bd ∧ ∀ x ∈ l, ok x)) := fun m H en w sp held fuel cs x hf h hz => by
  have hR' : RpOK sz (fun K cs x => R K cs x ∧ ok x) := ⟨fun hk h => ⟨hR.mono hk h.1, h.2⟩, fun h => hR.len h.1, fun h => hR.one h.1⟩
  obtain ⟨l, a, cap, e1, e2, e3, e4⟩ := RdrA.slr ht hsz h0 hR' hr m en w sp held fuel cs x hf h hz
  obtain ⟨css, g1, g2, g3⟩ := e4.ex
  refine ⟨l, ⟨a, cap, e1, ⟨css, g1, g2, fun i c x hc hx => (g3 i c x hc hx).1⟩, e2⟩, sl_size ht hby h hz e1, fun y hy => ?_⟩
  obtain ⟨i, hi⟩ := List.getElem?_of_mem hy
  obtain ⟨css, c, _, _, h3⟩ := e4.get hi
  exact h3.2
theorem rd_structA {H : Type} {enc : TypeId × Value → H} {w : World} {sp : Nat → Bool} {held : Bool} {fuel n : Nat} {t : TypeId} {cs : List Value} {x : DataW H × List MemPlace} {fs : Array Field}
    (ht : P.underlying t = some (.struct fs)) (hn : P.cellsOf t = n) (h : DataW.trod enc P w 0 sp held fuel t cs = some x) (hz : SzOK Bd P t x.1) :
    cs.length = n ∧ ∀ (i off sz : Nat) (ft : TypeId) {β : Type} {R : Rp β}, (match fs[i]? with | some f => f.offset = off ∧ f.type = ft ∧ P.cellsOf f.type = sz | none => False) → RdrA Bd P ft R → ∃ a, R (old w) ((cs.drop off).take sz) a := by
  have := rd_struct (m := fuel) ht (by omega) h hz
  refine ⟨by rw [this.1, hn], fun i off sz ft β R hf hr => ?_⟩
  split at hf
  · rename_i f hfi
    obtain ⟨rfl, rfl, rfl⟩ := hf
    exact this.2 i f hfi (hr fuel)
  · exact hf.elim

/-- An argument that is read. -/
theorem open_arg {H : Type} {enc : TypeId × Value → H} {w : World} {sp : Nat → Bool} {held : Bool} {t : Nat} {v : Value} {d : DataW H} {ps : List MemPlace} {R : Rp α} (hr : RdrA Bd P t R)
    (hd : DataW.Trod enc P w 0 sp held t v d ps) (hz : SzOK Bd P t d) : ∃ x, R (old w) v.cells.toList x :=
  let ⟨fuel, hf⟩ := hd; hr fuel enc w sp held fuel _ _ (Nat.le_refl _) hf hz
theorem sz_of {H : Type} {ts : List TypeId} {ds : List (DataW H)} (h : (DataW.weightsEach P ts ds).all (· ≤ reachBytes) = true) (j : Nat) {t : TypeId} {d : DataW H} (ht : ts[j]? = some t) (hd : ds[j]? = some d) : SzOK szMax P t d := fun n hn => by
  have h1 : n ≤ reachBytes := of_decide_eq_true (List.all_eq_true.1 h _ (DataW.weights_mem_each ht hd n hn))
  exact h1
def aggT (P : Program) (t : TypeId) : Bool := match P.underlying t with
  | some (.struct _) | some (.array _ _) => true
  | _ => false
theorem agg_of {w : World} {r : Reach} {b0 t : Nat} {v : Value} {cs : List Value} (ht : aggT P t = true) (hv : Value.okWide P w r b0 t v) (hc : v.cells.toList = cs) : v = .agg cs.toArray := by
  unfold aggT at ht
  unfold Value.okWide at hv
  split at hv
  · obtain ⟨c, rfl, _⟩ := hv; simp [Value.cells] at hc; subst hc; rfl
  · obtain ⟨c, rfl, _⟩ := hv; simp [Value.cells] at hc; subst hc; rfl
  · rename_i h1 h2
    split at ht
    · rename_i fs h; exact (h1 _ h).elim
    · rename_i n e h; exact (h2 _ _ h).elim
    · cases ht
theorem one_of {w : World} {r : Reach} {b0 t : Nat} {v c : Value} (ht : aggT P t = false) (hv : Value.okWide P w r b0 t v) (hc : v.cells.toList = [c]) : v = c := by
  cases v with
  | agg cs =>
    exfalso
    unfold aggT at ht
    unfold Value.okWide at hv
    split at hv
    · rename_i fs h; simp [h] at ht
    · rename_i n e h; simp [h] at ht
    · unfold Cell.okWide Cell.ok at hv
      split at hv <;> first | (rename_i h; cases h; done) | skip
      split at hv <;> simp_all
  | _ => simpa [Value.cells] using hc

theorem trodAll_stays {H : Type} {enc : TypeId × Value → H} {W W' : World} (hl : laidOutB P = true) (hb : Below W.heap.size W W') : ∀ {ts : List TypeId} {vs : List Value} {ds : List (DataW H)} {ps : List MemPlace},
    (ts.all fun t => P.readableRec t && decide (t < P.types.size)) = true → DataW.TrodAll enc P W 0 (fun _ => true) true ts vs ds ps → (∀ x ∈ ps, x.block < W.heap.size) →
    DataW.TrodAll enc P W' 0 (fun b => decide (b < W.heap.size)) true ts vs ds ps
  | [], vs, ds, ps, _, h, _ => by
    cases vs <;> cases ds <;> simp_all [DataW.TrodAll]
  | t :: ts, vs, ds, ps, ht, h, hlt => by
    simp only [List.all_cons, Bool.and_eq_true, decide_eq_true_eq] at ht
    obtain ⟨v, vs', d, ds', p, q, rfl, rfl, rfl, h0, h1⟩ := trodAll_cons h
    exact trodAll_cons_mk (Below.trod hl ht.1.1 ht.1.2 h0 hb fun x hx => hlt x (List.mem_append_left _ hx)) (trodAll_stays hl hb ht.2 h1 fun x hx => hlt x (List.mem_append_right _ hx))
theorem law_calls' {f : FuncId} {args : List Value} {w : World} {v : Value} (h : Fn P f args (old w) [] (fun r K' H' => r = v ∧ H' = [])) :
    Calls P f args.toArray w fun e w' => e = .returned v ∧ Below w.heap.size w w' := law_calls (h.mono fun v K' H' _ h => h.1)
end
end Go.SL
