/- What a row lists of a package variable (a slice of texts) is what is known of it. -/
import Derived.Test.YtpmdpondlmkojaaSL29
import Derived.Test.YtpmdpondlmkojaaSL20
import Derived.Deep.DeepHandedRow
set_option linter.unusedVariables false
set_option linter.unusedSimpArgs false
namespace Go.SL
open Go
section
variable {P : Program}
theorem bd_ex : ∀ (l : List Nat), ∃ B, ∀ n ∈ l, n ≤ B
  | [] => ⟨0, fun _ h => by cases h⟩
  | x :: l => by
    obtain ⟨B, h⟩ := bd_ex l
    refine ⟨max x B, fun n hn => ?_⟩
    rcases List.mem_cons.1 hn with rfl | hn
    · exact Nat.le_max_left _ _
    · exact Nat.le_trans (h n hn) (Nat.le_max_right _ _)
def txtD {H : Type} (l : List Str) : DataW H := .slice (l.map fun s => .lit (.string s)) []
theorem gl_of_laid {W : World} {name : String} {g t e : Nat} {l : List Str} {rest : List (String × DataW Unit)} (hg : P.globalNamed name = some g) (hty : (P.globals[g]?).map (·.type) = some t) (ht : P.underlying t = some (.slice e)) (he : P.underlying e = some .string) (hce : P.cellsOf e = 1)
    (h : laidMet P ((name, txtD l) :: rest) W) : GlL eS 1 g l (old W) := by
  obtain ⟨ps, ⟨g', t', cs, fuel, p, q, hg', ht', hvar, hd, _, _⟩, _⟩ := h
  obtain rfl := Option.some.inj (hg.symm.trans hg')
  obtain rfl := Option.some.inj (hty.symm.trans ht')
  obtain ⟨Bd, hB⟩ := bd_ex (DataW.weights P t (txtD l : DataW Unit))
  have hr : RdrA Bd P t (slR 1 strR) := RdrA.slr ht hce rfl strR_ok fun m => Rdr.str he
  obtain ⟨l', a, cap, e1, e2, e3, e4⟩ := hr fuel (fun _ => ()) W (fun _ => true) false fuel cs.toList (txtD l, p) (Nat.le_refl _) hd hB
  have hl : l' = l := by
    rcases DataW.trod_slice ht hd with ⟨_, e0⟩ | ⟨a', len, cap', elems, rst, m, hm, ec, ex, hb, hle, hmx, hlen, hel, _, _⟩
    · exact absurd (congrArg (·.1) e0) (by unfold txtD; intro x; cases x)
    · rw [ec] at e1
      simp only [List.cons.injEq, Value.slice.injEq, and_true] at e1
      obtain ⟨rfl, rfl, rfl⟩ := e1
      have h1 : elems.map (·.1) = l.map fun s => (DataW.lit (.string s) : DataW Unit) := by
        have := congrArg (·.1) ex
        unfold txtD at this
        injection this with h1 h2
        exact h1.symm
      have hll : l.length = l'.length := by
        have := congrArg List.length h1
        simp only [List.length_map] at this
        omega
      apply List.ext_getElem? 
      intro i
      rcases Nat.lt_or_ge i l'.length with hi | hi
      · obtain ⟨x, hx⟩ : ∃ x, l'[i]? = some x := ⟨_, List.getElem?_eq_getElem hi⟩
        obtain ⟨css, c, k1, k2, k3⟩ := e4.get (by simpa using hx)
        have hk := hel i hi
        rw [List.getElem?_eq_getElem (by omega)] at hk
        obtain ⟨c', q1, q2⟩ := Option.bind_eq_some_iff.1 hk
        obtain ⟨s, rfl, q3, _⟩ := DataW.trod_string he q2
        have hs : l[i]? = some s.data.toList := by
          have := congrArg (·[i]?) h1
          simp only [List.getElem?_map] at this
          rw [List.getElem?_eq_getElem (by omega)] at this
          simp only [Option.map_some] at this
          rw [q3] at this
          cases h2 : l[i]? with
          | none => rw [h2] at this; cases this
          | some y =>
            rw [h2] at this
            simp only [Option.map_some, Option.some.injEq, DataW.lit.injEq, Lit.string.injEq] at this
            rw [this]
        rw [hce] at q1
        have hc := (cells?_get q1).2 0 _ rfl
        obtain ⟨b, off, hab, hcell⟩ := k1.cell k2
        have hv := hcell W (fun _ _ h => h) 0 (str x) (by rw [k3.1]; rfl)
        have e0 : (a'.add (i * 1)).add 0 = ⟨b, off + (i * 1 + 0), none⟩ := by
          have : a' = ⟨b, off, none⟩ := by simpa using hab
          subst this
          simp [Addr.add]
        rw [e0, hv] at hc
        have hx' : x = s.data.toList := by
          have h2 := Option.some.inj hc
          unfold str at h2
          injection h2 with h3
          rw [← h3]
        rw [hx, hs, hx']
      · rw [List.getElem?_eq_none hi, List.getElem?_eq_none (by omega)]
  subst hl
  refine ⟨a, l'.length, cap, rfl, ?_, ⟨LiR.flat (enc := eS) (fun K cs a h => h.1) e4, e2⟩⟩
  refine ⟨fun m hm => by simp at hm; subst hm; rfl, fun m hm v hv => by simp at hm; subst hm; simp at hv; subst hv; rfl, fun _ => ?_⟩
  unfold World.var? at hvar
  rw [hg] at hvar
  simp only [Option.bind_some] at hvar
  cases hw : W.heap[g]? with
  | none => rw [hw] at hvar; cases hvar
  | some o =>
    rw [hw] at hvar
    cases o with
    | cells c T fz =>
      simp only [Option.some.injEq] at hvar
      subst hvar
      refine ⟨g, 0, c, T, fz, rfl, hw, fun i v hv => ?_⟩
      simp only [List.flatten_cons, List.flatten_nil, List.append_nil] at hv
      rw [← e1] at hv
      simpa using hv
    | _ => cases hvar
end
end Go.SL
