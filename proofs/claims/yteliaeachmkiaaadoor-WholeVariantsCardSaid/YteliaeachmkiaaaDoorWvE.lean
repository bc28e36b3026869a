/- WholeVariants: the loops of the law. -/
import Derived.Test.YteliaeachmkiaaaDoorWvD
set_option linter.unusedVariables false
set_option linter.unusedSimpArgs false
open Go Go.SL Go.Proofs Pl
namespace Vary
theorem wv_L4 {varies : List Str} {n : Nat} {S : List (List RF)} (hn : 20000 ≤ n) (hS : S.length ≤ 12) (gS : ∀ f ∈ S, GoodF f) : ∀ (r : List (List RF)) (vs : List Vt) (m : List (Int × Bool)), S.drop vs.length = r → WInv S vs m → vs.length + r.length ≤ 12 →
    quaysidetop_WholeVariants_L4 varies n r vs.length (vs.map (·.names)) m ⟨alive vs m⟩ = some (Fl.ret true) ∨
    ∃ vs' m', quaysidetop_WholeVariants_L4 varies n r vs.length (vs.map (·.names)) m ⟨alive vs m⟩ = some (Fl.go (vs'.map (·.names), m', ⟨alive vs' m'⟩)) ∧ WInv S vs' m' ∧ vs'.length = vs.length + r.length
  | [], vs, m, hd, hi, hl => .inr ⟨vs, m, rfl, hi, by simp⟩
  | f :: r, vs, m, hd, hi, hl => by
    simp only [List.length_cons] at hl ⊢
    have hf : S[vs.length]? = some f := by
      have := congrArg List.head? hd
      rw [List.head?_drop] at this; simpa using this
    have hdr : S.drop (vs.length + 1) = r := by
      have := congrArg List.tail hd
      rwa [List.tail_drop] at this
    have gf : GoodF f := gS f (List.mem_of_getElem? hf)
    have key : ∀ (l : List Str), sumL l ≤ 1000 → ∀ R, (∀ v m', R = quaysidetop_WholeVariants_L4 varies n r (vs.length + 1) (vs.map (·.names) ++ [l]) m' ⟨v⟩ → True) →
        ((vary_Set_Put n ⟨alive vs m⟩ l f (vs.length : Int)).bind fun x126 => (chk (x126.1.length ≤ szMax)).bind fun _ => (quaysidetop_WholeVariants_L6 x126.1 0 m).bind fun t6 => quaysidetop_WholeVariants_L4 varies n r (vs.length + 1) (vs.map (·.names) ++ [l]) t6 x126.2) = some (Fl.ret true) ∨
        ∃ vs' m', ((vary_Set_Put n ⟨alive vs m⟩ l f (vs.length : Int)).bind fun x126 => (chk (x126.1.length ≤ szMax)).bind fun _ => (quaysidetop_WholeVariants_L6 x126.1 0 m).bind fun t6 => quaysidetop_WholeVariants_L4 varies n r (vs.length + 1) (vs.map (·.names) ++ [l]) t6 x126.2) = some (Fl.go (vs'.map (·.names), m', ⟨alive vs' m'⟩)) ∧ WInv S vs' m' ∧ vs'.length = vs.length + (r.length + 1) := by
      intro l hsl _ _
      obtain ⟨g, hg, hgl, hw⟩ := hi.put (l := l) (f := f) (n := n) (by omega) (by omega) hsl hf gf
      rw [hg, Option.bind_some, chk_bind (by simp only [szMax]; omega), wv_L6, Option.bind_some]
      have e1 : (vs ++ [(⟨l, key l f, (vs.length : Int)⟩ : Vt)]).length = vs.length + 1 := by simp
      have e2 : (vs ++ [(⟨l, key l f, (vs.length : Int)⟩ : Vt)]).map (·.names) = vs.map (·.names) ++ [l] := by simp
      have ih := wv_L4 (varies := varies) hn hS gS r (vs ++ [⟨l, key l f, (vs.length : Int)⟩]) (addG g m) (by rw [e1]; exact hdr) hw (by rw [e1]; omega)
      rw [e1, e2] at ih
      rcases ih with h | ⟨vs', m', h1, h2, h3⟩
      · exact .inl h
      · exact .inr ⟨vs', m', h1, h2, by omega⟩
    have txt : ∀ (t : Str), t.length ≤ 200 → ∀ (X : Option (Fl Bool (List (List Str) × List (Int × Bool) × St))),
        X = ((vary_Names n [(⟨([118, 97, 114, 121] : Str), t⟩ : S_field_Field)]).bind fun x114 =>
          if x114.2 = true then (chk ((vs.map (·.names)).length + ([[]] : List (List Str)).length ≤ lim)).bind fun _ => (vary_Set_Put n ⟨alive vs m⟩ [] f (vs.length : Int)).bind fun x126 => (chk (x126.1.length ≤ szMax)).bind fun _ => (quaysidetop_WholeVariants_L6 x126.1 0 m).bind fun t6 => quaysidetop_WholeVariants_L4 varies n r (vs.length + 1) (vs.map (·.names) ++ ([[]] : List (List Str))) t6 x126.2
          else (chk ((vs.map (·.names)).length + [x114.1].length ≤ lim)).bind fun _ => (vary_Set_Put n ⟨alive vs m⟩ x114.1 f (vs.length : Int)).bind fun x126 => (chk (x126.1.length ≤ szMax)).bind fun _ => (quaysidetop_WholeVariants_L6 x126.1 0 m).bind fun t6 => quaysidetop_WholeVariants_L4 varies n r (vs.length + 1) (vs.map (·.names) ++ [x114.1]) t6 x126.2) →
        X = some (Fl.ret true) ∨ ∃ vs' m', X = some (Fl.go (vs'.map (·.names), m', ⟨alive vs' m'⟩)) ∧ WInv S vs' m' ∧ vs'.length = vs.length + (r.length + 1) := by
      rintro t ht X rfl
      obtain ⟨⟨l, any⟩, h1, h2⟩ := namesT ht hn
      rw [h1, Option.bind_some]
      cases any with
      | true =>
        rw [if_pos rfl, chk_bind (by simp only [lim, List.length_map, List.length_cons, List.length_nil]; omega)]
        exact key [] (by simp [sumL_nil]) none (fun _ _ _ => trivial)
      | false =>
        rw [if_neg (by simp), chk_bind (by simp only [lim, List.length_map, List.length_cons, List.length_nil]; omega)]
        exact key l h2 none (fun _ _ _ => trivial)
    rw [quaysidetop_WholeVariants_L4]
    by_cases q : (vs.length : Int) < (varies.length : Int)
    · rw [if_pos (by simpa using q)]
      obtain ⟨t, ht⟩ := ix_ok (s := varies) (i := (vs.length : Int)) (by omega) q
      rw [ht, Option.bind_some]
      by_cases k : (t.length : Int) > 200
      · rw [if_pos (by simpa using k)]; exact .inl rfl
      · rw [if_neg (by simpa using k)]
        exact txt t (by omega) _ rfl
    · rw [if_neg (by simpa using q), if_neg (by simp)]
      exact txt [] (by simp) _ rfl
def agree (f g : List RF) (l : List Str) : Bool := l.all fun n => decide (nvals f n = nvals g n)
theorem ix_get {α : Type} {l : List α} {j : Nat} {x : α} (h : l[j]? = some x) : ix l (j : Int) = some x := by
  unfold ix; rw [if_pos (by omega)]; simpa using h
theorem wv_L10 {S : List (List RF)} {p : Nat} {f ask : List RF} (hf : S[p]? = some f) (gf : GoodF f) (ga : GoodF ask) : ∀ (l : List Str) (i : Nat) (b : Bool), (∀ x ∈ l, x.length ≤ 1000000) → quaysidetop_WholeVariants_L10 S (p : Int) ask l i b = some (b && agree f ask l)
  | [], i, b, _ => by rw [quaysidetop_WholeVariants_L10]; simp [agree]
  | x :: l, i, b, h => by
    rw [quaysidetop_WholeVariants_L10]
    have hx := h x (List.mem_cons_self ..)
    have e : agree f ask (x :: l) = (decide (nvals f x = nvals ask x) && agree f ask l) := rfl
    cases b with
    | true => rw [if_pos rfl, ix_get hf, Option.bind_some, alike_eq gf ga hx, Option.bind_some, Option.bind_some, wv_L10 hf gf ga l (i + 1) _ (fun y hy => h y (List.mem_cons_of_mem _ hy)), e, Bool.true_and]
    | false => rw [if_neg (by simp), Option.bind_some, wv_L10 hf gf ga l (i + 1) _ (fun y hy => h y (List.mem_cons_of_mem _ hy))]; simp
theorem wv_L16 {S : List (List RF)} {p : Nat} {f e : List RF} (hf : S[p]? = some f) (gf : GoodF f) (ge : GoodF e) : ∀ (l : List Str) (i : Nat) (b : Bool), (∀ x ∈ l, x.length ≤ 1000000) → quaysidetop_WholeVariants_L16 S (p : Int) e l i b = some (b && agree e f l)
  | [], i, b, _ => by rw [quaysidetop_WholeVariants_L16]; simp [agree]
  | x :: l, i, b, h => by
    rw [quaysidetop_WholeVariants_L16]
    have hx := h x (List.mem_cons_self ..)
    have e : agree e f (x :: l) = (decide (nvals e x = nvals f x) && agree e f l) := rfl
    cases b with
    | true => rw [if_pos rfl, ix_get hf, Option.bind_some, alike_eq ge gf hx, Option.bind_some, Option.bind_some, wv_L16 hf gf ge l (i + 1) _ (fun y hy => h y (List.mem_cons_of_mem _ hy)), e, Bool.true_and]
    | false => rw [if_neg (by simp), Option.bind_some, wv_L16 hf gf ge l (i + 1) _ (fun y hy => h y (List.mem_cons_of_mem _ hy))]; simp
theorem sm_len {vs : List Vt} {v : Vt} (h : ∀ v ∈ vs, sumL v.names ≤ 1000) (hv : v ∈ vs) : v.names.length ≤ 1000 ∧ ∀ x ∈ v.names, x.length ≤ 1000000 :=
  ⟨Nat.le_trans (sumL_len _) (h v hv), fun x hx => by have := sumL_mem hx; have := h v hv; omega⟩
theorem wv_L8 {S : List (List RF)} {vs : List Vt} {m : List (Int × Bool)} {st : St} {ask : List RF} {got : List Int} (hw : WInv S vs m) (hS : S.length ≤ 12) (hvs : vs.length = S.length) (gS : ∀ f ∈ S, GoodF f) (ga : GoodF ask) : ∀ (p fuel k : Nat), p ≤ S.length → p < fuel → k ≤ got.length → got.length ≤ 100 →
    got.drop k = ((vs.take p).reverse.filter (fun v => !gn m v.id && hit ask v)).map (·.id) → quaysidetop_WholeVariants_L8 (vs.map (·.names), m, st) S ask got fuel (k : Int) ((p : Int) - 1) = some (Fl.go ((got.length : Int), -1))
  | 0, fuel + 1, k, hp, hf, hk, hk2, hd => by
    rw [quaysidetop_WholeVariants_L8, if_neg (by simp)]
    have : got.length ≤ k := by
      have := congrArg List.length hd
      simp at this; omega
    have : k = got.length := by omega
    subst this; rfl
  | p + 1, fuel + 1, k, hp, hf, hk, hk2, hd => by
    have hpv : p < vs.length := by omega
    have e0 : (((p + 1 : Nat) : Int) - 1) = (p : Int) := by omega
    have hv : vs[p]? = some vs[p] := List.getElem?_eq_getElem hpv
    have hfS : S[p]? = some S[p] := List.getElem?_eq_getElem (by omega)
    have gf := gS _ (List.getElem_mem (l := S) (n := p) (by omega))
    obtain ⟨sm1, sm2⟩ := sm_len hw.sm (List.getElem_mem hpv)
    have hid := hw.id p _ hv
    have hks := hw.ks p _ _ hv hfS
    rw [quaysidetop_WholeVariants_L8, e0, if_pos (by simp)]
    have hnx : ix (vs.map (·.names)) (p : Int) = some (vs[p]).names := ix_get (by rw [List.getElem?_map, hv]; rfl)
    have hgn : (!(mget m (p : Int)).getD false) = !gn m (vs[p]).id := by rw [hid]; rfl
    have hhit : hit ask vs[p] = agree S[p] ask (vs[p]).names := by
      unfold hit agree
      rw [hks, ← key_agree gf ga]
      exact decide_eq_decide.2 ⟨Eq.symm, Eq.symm⟩
    have htk : (vs.take (p + 1)).reverse = vs[p] :: (vs.take p).reverse := by
      rw [List.take_succ_eq_append_getElem hpv, List.reverse_append]; rfl
    rw [htk, List.filter_cons] at hd
    show ((ix (vs.map (·.names)) (p : Int)).bind _) = _
    rw [hnx, Option.bind_some, chk_bind (by simp only [szMax]; omega)]
    show ((quaysidetop_WholeVariants_L10 S (p : Int) ask (vs[p]).names 0 (!(mget m (p : Int)).getD false)).bind _) = _
    rw [wv_L10 hfS gf ga _ _ _ sm2, Option.bind_some, hgn, ← hhit]
    cases q : (!gn m (vs[p]).id && hit ask vs[p]) with
    | true =>
      rw [q, if_pos rfl, List.map_cons] at hd
      have hk3 : k < got.length := by
        rcases Nat.lt_or_ge k got.length with h | h
        · exact h
        · rw [List.drop_of_length_le h] at hd; cases hd
      have hix : ix got (k : Int) = some (p : Int) := ix_get (by
        have := congrArg List.head? hd
        rw [List.head?_drop] at this; rw [this, ← hid]; rfl)
      rw [if_pos rfl, if_neg (by simp; omega), hix, Option.bind_some, Option.bind_some, if_neg (by simp), chk_bind (by constructor <;> omega), chk_bind (by constructor <;> omega)]
      have hdr : got.drop (k + 1) = ((vs.take p).reverse.filter (fun v => !gn m v.id && hit ask v)).map (·.id) := by
        have := congrArg List.tail hd
        rwa [List.tail_drop] at this
      have ih := wv_L8 (st := st) hw hS hvs gS ga p fuel (k + 1) (by omega) (by omega) (by omega) hk2 hdr
      exact ih
    | false =>
      rw [q, if_neg (by simp)] at hd
      rw [if_neg (by simp), chk_bind (by constructor <;> omega)]
      exact wv_L8 hw hS hvs gS ga p fuel k (by omega) (by omega) hk hk2 hd
theorem wv_L14 {S : List (List RF)} {vs : List Vt} {m : List (Int × Bool)} {st : St} {i : Nat} {e : List RF} {v : Vt} (hw : WInv S vs m) (hS : S.length ≤ 12) (hvs : vs.length = S.length) (gS : ∀ f ∈ S, GoodF f) (ge : GoodF e) (hv : vs[i]? = some v) : ∀ (c j fuel : Nat) (y : Bool), j + c = S.length → c < fuel →
    ∃ z, quaysidetop_WholeVariants_L14 S (vs.map (·.names), m, st) i e fuel y (j : Int) = some (z, (S.length : Int)) ∧ (y = true → z = true) ∧ ∀ (q : Nat) w f, j ≤ q → vs[q]? = some w → S[q]? = some f → v.names = w.names → agree e f v.names = true → z = true
  | 0, j, fuel + 1, y, hj, hc => by
    rw [quaysidetop_WholeVariants_L14, if_neg (by simp; omega)]
    refine ⟨y, by rw [show (j : Int) = (S.length : Int) from by omega], id, fun q w f h1 h2 h3 => ?_⟩
    have := (List.getElem?_eq_some_iff.1 h3).1
    omega
  | c + 1, j, fuel + 1, y, hj, hc => by
    have hjS : j < S.length := by omega
    have hwj : vs[j]? = some vs[j] := List.getElem?_eq_getElem (by omega)
    have hfj : S[j]? = some S[j] := List.getElem?_eq_getElem (by omega)
    have gf := gS _ (List.getElem_mem hjS)
    obtain ⟨sm1, sm2⟩ := sm_len hw.sm (List.mem_of_getElem? hv)
    have h1 : ix (vs.map (·.names)) (i : Int) = some v.names := ix_get (by rw [List.getElem?_map, hv]; rfl)
    have h2 : ix (vs.map (·.names)) (j : Int) = some (vs[j]'(by omega)).names := ix_get (by rw [List.getElem?_map, hwj]; rfl)
    rw [quaysidetop_WholeVariants_L14, if_pos (by simp; omega)]
    show ∃ z, ((ix (vs.map (·.names)) (i : Int)).bind _) = _ ∧ _
    rw [h1, Option.bind_some]
    show ∃ z, ((ix (vs.map (·.names)) (j : Int)).bind _) = _ ∧ _
    rw [h2, Option.bind_some, btexts_eq (by omega), Option.bind_some]
    rw [Option.bind_some, chk_bind (by simp only [szMax]; omega), wv_L16 hfj gf ge _ _ _ sm2, Option.bind_some, chk_bind (by constructor <;> omega), show ((j : Int) + 1) = ((j + 1 : Nat) : Int) from by omega]
    obtain ⟨z, hz, z1, z2⟩ := wv_L14 (st := st) hw hS hvs gS ge hv c (j + 1) fuel (y || (decide (v.names = (vs[j]'(by omega)).names) && agree e S[j] v.names)) (by omega) (by omega)
    refine ⟨z, hz, fun hy => z1 (by simp [hy]), fun q w f hq hwq hfq hn ha => ?_⟩
    by_cases k : q = j
    · subst k
      rw [hwj] at hwq; cases hwq
      rw [hfj] at hfq; cases hfq
      exact z1 (by rw [ha, decide_eq_true hn]; simp)
    · exact z2 q w f (by omega) hwq hfq hn ha
theorem wv_L12 {S : List (List RF)} {vs : List Vt} {m : List (Int × Bool)} {st : St} {n : Nat} (hn : 20000 ≤ n) (hw : WInv S vs m) (hS : S.length ≤ 12) (hvs : vs.length = S.length) (gS : ∀ f ∈ S, GoodF f) : ∀ (r : List (List RF)) (i : Nat), S.drop i = r → i + r.length = S.length → quaysidetop_WholeVariants_L12 (vs.map (·.names), m, st) S n r i = some (Fl.go ())
  | [], i, hd, hi => rfl
  | e :: r, i, hd, hi => by
    simp only [List.length_cons] at hi
    have hf : S[i]? = some e := by
      have := congrArg List.head? hd
      rw [List.head?_drop] at this; simpa using this
    have hdr : S.drop (i + 1) = r := by
      have := congrArg List.tail hd
      rwa [List.tail_drop] at this
    have ge : GoodF e := gS e (List.mem_of_getElem? hf)
    rw [quaysidetop_WholeVariants_L12]
    show (if (!gn m (i : Int)) = true then _ else _) = _
    cases q : gn m (i : Int) with
    | false => rw [if_pos (by rfl)]; exact wv_L12 hn hw hS hvs gS r (i + 1) hdr (by omega)
    | true =>
      rw [if_neg (by simp)]
      obtain ⟨a, b, v, w, ea, hab, hv, hwb, n1, n2⟩ := hw.gone _ q
      have : a = i := by omega
      subst this
      have hbl := (List.getElem?_eq_some_iff.1 hwb).1
      have hfb : S[b]? = some (S[b]'(by omega)) := List.getElem?_eq_getElem (by omega)
      obtain ⟨z, hz, z1, z2⟩ := wv_L14 (st := st) hw hS hvs gS ge hv (S.length - (a + 1)) (a + 1) n false (by omega) (by omega)
      rw [show (((a + 1 : Nat) : Int)) = (a : Int) + 1 from by omega] at hz
      have hag : agree e (S[b]'(by omega)) v.names = true := by
        have k1 := hw.ks a v e hv hf
        have k2 := hw.ks b w _ hwb hfb
        unfold agree
        rw [← key_agree ge (gS _ (List.getElem_mem _))]
        exact decide_eq_true (by rw [← k1, n2, k2, n1])
      have : z = true := z2 b w _ (by omega) hwb hfb n1 hag
      subst this
      rw [hz, Option.bind_some, if_neg (by simp)]
      exact wv_L12 hn hw hS hvs gS r (a + 1) hdr (by omega)
end Vary
