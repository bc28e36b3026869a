/- Vary: the document's sets are the program's; removal. -/
import Derived.Test.YtlpjmfojahofnaaVaryS
import Derived.Test.YtlpjmfojahofnaaVaryRK
set_option linter.unusedVariables false
set_option linter.unusedSimpArgs false
open Go Go.SL Go.Proofs Pl
namespace Vary
abbrev Rv := S_ref16_Variant
def toR (v : Vt) : Rv := ⟨v.names, v.key, v.id⟩
theorem btexts_L0 {b : List Str} : ∀ (r q : List Str) (i : Nat), b.drop i = q → q.length = r.length → base_Texts_L0 b r i = some (if r = q then Fl.go () else Fl.ret false)
  | [], q, i, hq, hl => by
    have : q = [] := List.length_eq_zero_iff.1 hl
    subst this; rfl
  | x :: r, [], i, hq, hl => by simp at hl
  | x :: r, y :: q, i, hq, hl => by
    obtain ⟨h1, h2⟩ := ix_dropped hq
    rw [base_Texts_L0, h1, Option.bind_some]
    by_cases k : x = y
    · rw [if_neg (by simpa using k), btexts_L0 r q (i + 1) h2 (by simpa using hl)]
      subst k; simp
    · rw [if_pos (by simpa using k)]; simp [k]
theorem btexts_eq {a b : List Str} (h : a.length ≤ 1000000) : base_Texts a b = some (decide (a = b)) := by
  unfold base_Texts
  by_cases k : a.length = b.length
  · rw [if_neg (by simp; omega), chk_bind (by simp only [szMax]; omega), btexts_L0 a b 0 rfl k.symm, Option.bind_some]
    by_cases e : a = b
    · rw [if_pos e]; simp [e, Fl.el]
    · rw [if_neg e]; simp [e, Fl.el]
  · rw [if_pos (by simp; omega)]
    have : a ≠ b := fun e => k (by rw [e])
    simp [this]
theorem ints_L0 (b : List Int) : ∀ (l pre : List Int), b = pre ++ l → base_Ints_L0 b l pre.length = some (.go ())
  | [], pre, h => by rw [base_Ints_L0]
  | x :: l, pre, h => by
    have ih := ints_L0 b l (pre ++ [x]) (by simp [h])
    rw [base_Ints_L0]
    have : ix b (pre.length : Int) = some x := by unfold ix; rw [if_pos (by omega), h]; simp
    rw [this]
    simpa using ih
theorem ints_eq {l : List Int} (h : l.length ≤ 1000) : base_Ints l l = some true := by
  unfold base_Ints
  rw [if_neg (by simp), chk_bind (by simp only [szMax]; omega)]
  have := ints_L0 l l [] rfl
  simp only [List.length_nil] at this
  rw [this]; rfl
theorem rput_L0 {id : Int} {k : Str} {names : List Str} : ∀ (l : List Vt) (i : Nat) (o : List Rv) (g : List Int), g.length + l.length ≤ 1000000 → o.length + l.length ≤ 1000000 → (∀ v ∈ l, v.names.length ≤ 1000000) →
    ref16_Put_L0 id names k (l.map toR) i o g = some (o ++ (l.filter (stay id k names)).map toR, g ++ (l.filter (out id k names)).map (·.id))
  | [], i, o, g, _, _, _ => by simp [ref16_Put_L0]
  | v :: l, i, o, g, hg, ho, hv => by
    simp only [List.length_cons] at hg ho
    have hv' : ∀ z ∈ l, z.names.length ≤ 1000000 := fun z hz => hv z (List.mem_cons_of_mem _ hz)
    rw [List.map_cons, ref16_Put_L0]
    show (if decide (v.id = id) = true then _ else _) = _
    by_cases h1 : v.id = id
    · rw [if_pos (by simpa using h1), rput_L0 l (i + 1) o g (by omega) (by omega) hv']
      simp [stay, out, h1]
    · rw [if_neg (by simpa using h1)]
      show ((base_Texts v.names names).bind _) = _
      rw [btexts_eq (hv v (List.mem_cons_self ..)), Option.bind_some]
      show (if (decide (v.names = names) && decide (v.key = k)) = true then _ else _) = _
      have es : (decide (v.names = names) && decide (v.key = k)) = same k names v := by unfold same; rw [Bool.and_comm]
      rw [es]
      cases h2 : same k names v with
      | true =>
        rw [if_pos rfl, chk_bind (by simp only [lim, List.length_cons, List.length_nil]; omega), rput_L0 l (i + 1) o _ (by simp only [List.length_append, List.length_cons, List.length_nil]; omega) (by omega) hv']
        simp [stay, out, h1, h2, toR]
      | false =>
        rw [if_neg (by simp), chk_bind (by simp only [lim, List.length_cons, List.length_nil]; omega), rput_L0 l (i + 1) _ g (by omega) (by simp only [List.length_append, List.length_cons, List.length_nil]; omega) hv']
        simp [stay, out, h1, h2, toR]
theorem rput_L2 {t : List Rv × List Int} (ht : t.1.length ≤ 100000) : ∀ (n i : Nat) (y : List Int), i ≤ 100000 → t.1.length - i < n → y.length + (t.1.length - i) ≤ 1000000 → ∃ z, ref16_Put_L2 t n y (i : Int) = some (y ++ (t.1.drop i).map (·.ID), z)
  | 0, i, y, _, h, _ => by omega
  | n + 1, i, y, hi, h, hy => by
    rw [ref16_Put_L2]
    by_cases k : i < t.1.length
    · have hd := List.drop_eq_getElem_cons k
      obtain ⟨h1, h2⟩ := ix_dropped hd
      have e1 : ((i : Int) + 1) = ((i + 1 : Nat) : Int) := by omega
      rw [if_pos (by simpa using k), h1, Option.bind_some, chk_bind (by simp only [lim, List.length_cons, List.length_nil]; omega), chk_bind (by constructor <;> omega), e1]
      obtain ⟨z, hz⟩ := rput_L2 ht n (i + 1) (y ++ [t.1[i].ID]) (by omega) (by omega) (by simp only [List.length_append, List.length_cons, List.length_nil]; omega)
      exact ⟨z, by rw [hz, hd, List.map_cons, List.append_assoc]; rfl⟩
    · rw [if_neg (by simpa using k), List.drop_eq_nil_of_le (by omega)]
      exact ⟨(i : Int), by simp⟩
theorem rput_eq {n : Nat} {l : List Vt} {names : List Str} {k : Str} {id : Int} (hn : 100 ≤ n) (hl : l.length ≤ 16) (hv : ∀ v ∈ l, v.names.length ≤ 1000000) :
    ref16_Put n (l.map toR) names k id = some (((putL l names k id).take 16).map toR, goneL l names k id) := by
  have h2 : (l.filter (stay id k names)).length ≤ l.length := List.length_filter_le _ _
  have h3 : (l.filter (out id k names)).length ≤ l.length := List.length_filter_le _ _
  unfold ref16_Put
  rw [chk_bind (by simp only [szMax, List.length_map]; omega), rput_L0 l 0 _ [] (by simp <;> omega) (by simp <;> omega) hv, Option.bind_some, List.nil_append]
  have e : [(⟨names, k, id⟩ : Rv)] ++ (l.filter (stay id k names)).map toR = (putL l names k id).map toR := rfl
  rw [e]
  have hp : (putL l names k id).length ≤ 17 := by unfold putL; simp only [List.length_cons]; omega
  obtain ⟨z, hz⟩ := rput_L2 (t := ((putL l names k id).map toR, (l.filter (out id k names)).map (·.id))) (by simp only [List.length_map]; omega) n 16 ((l.filter (out id k names)).map (·.id)) (by omega) (by simp only [List.length_map]; omega) (by simp only [List.length_map]; omega)
  rw [show ((16 : Nat) : Int) = 16 from rfl] at hz
  rw [hz, Option.bind_some, chk_bind (by simp only; omega)]
  have hs : subL ((putL l names k id).map toR) (0 : Int) (min (((putL l names k id).map toR).length : Int) 16) = ((putL l names k id).take 16).map toR := by
    unfold subL
    rw [show ((0 : Int)).toNat = 0 from rfl, List.drop_zero, ← List.map_take, List.length_map]
    rcases Nat.le_total (putL l names k id).length 16 with q | q
    · rw [show (min ((putL l names k id).length : Int) 16 - 0).toNat = (putL l names k id).length from by omega, List.take_of_length_le (Nat.le_refl _), List.take_of_length_le q]
    · rw [show (min ((putL l names k id).length : Int) 16 - 0).toNat = 16 from by omega]
  simp only
  rw [hs]
  unfold goneL
  simp only [List.drop, List.map_drop, List.map_map]
  rfl
theorem rfind_L0 {n : Nat} (hn : 2 ≤ n) {f : List RF} (hf : tot f ≤ 10000) : ∀ (l : List Vt) (i : Nat) (y : List Int), y.length + l.length ≤ 1000000 → (∀ v ∈ l, sumL v.names ≤ 1000) → ref16_Find_L0 n f (l.map toR) i y = some (y ++ (l.filter (hit f)).map (·.id))
  | [], i, y, _, _ => by simp [ref16_Find_L0]
  | v :: l, i, y, h, hv => by
    simp only [List.length_cons] at h
    have hv' : ∀ z ∈ l, sumL z.names ≤ 1000 := fun z hz => hv z (by simp [hz])
    rw [List.map_cons, ref16_Find_L0]
    show ((ref16_Key n v.names f).bind _) = _
    rw [rkey hn (hv v (by simp)) hf, Option.bind_some]
    show (if decide (key v.names f = v.key) = true then _ else _) = _
    by_cases k : key v.names f = v.key
    · rw [if_pos (by simpa using k), chk_bind (by simp only [lim, List.length_cons, List.length_nil]; omega), rfind_L0 hn hf l (i + 1) _ (by simp only [List.length_append, List.length_cons, List.length_nil]; omega) hv']
      simp [hit, k, toR]
    · rw [if_neg (by simpa using k), rfind_L0 hn hf l (i + 1) _ (by omega) hv']
      simp [hit, k]
theorem rfind_eq {n : Nat} (hn : 2 ≤ n) {l : List Vt} {f : List RF} (h : l.length ≤ 1000) (hf : tot f ≤ 10000) (hv : ∀ v ∈ l, sumL v.names ≤ 1000) : ref16_Find n (l.map toR) f = some ((l.filter (hit f)).map (·.id)) := by
  unfold ref16_Find
  rw [chk_bind (by simp only [szMax, List.length_map]; omega), rfind_L0 hn hf l 0 [] (by simp <;> omega) hv]; rfl
theorem rids_L0 : ∀ (l : List Vt) (i : Nat) (y : List Int), y.length + l.length ≤ 1000000 → ref16_IDs_L0 (l.map toR) i y = some (y ++ l.map (·.id))
  | [], i, y, _ => by simp [ref16_IDs_L0]
  | v :: l, i, y, h => by
    simp only [List.length_cons] at h
    rw [List.map_cons, ref16_IDs_L0, chk_bind (by simp only [lim, List.length_cons, List.length_nil]; omega), rids_L0 l (i + 1) _ (by simp only [List.length_append, List.length_cons, List.length_nil]; omega)]
    simp [toR]
theorem rids_eq {l : List Vt} (h : l.length ≤ 1000) : ref16_IDs (l.map toR) = some (l.map (·.id)) := by
  unfold ref16_IDs
  rw [chk_bind (by simp only [szMax, List.length_map]; omega), rids_L0 l 0 [] (by simp <;> omega)]; rfl
def kp (id : Int) (v : Vt) : Bool := !decide (v.id = id)
theorem rremove_L0 {id : Int} : ∀ (l : List Vt) (i : Nat) (y : List Rv), y.length + l.length ≤ 1000000 → ref16_Remove_L0 id (l.map toR) i y = some (y ++ (l.filter (kp id)).map toR)
  | [], i, y, _ => by simp [ref16_Remove_L0]
  | v :: l, i, y, h => by
    simp only [List.length_cons] at h
    rw [List.map_cons, ref16_Remove_L0]
    show (if decide (v.id ≠ id) = true then _ else _) = _
    by_cases k : v.id = id
    · rw [if_neg (by simpa using k), rremove_L0 l (i + 1) _ (by omega)]; simp [kp, k]
    · rw [if_pos (by simpa using k), chk_bind (by simp only [lim, List.length_cons, List.length_nil]; omega), rremove_L0 l (i + 1) _ (by simp only [List.length_append, List.length_cons, List.length_nil]; omega)]; simp [kp, k]
theorem rremove_eq {l : List Vt} {id : Int} (h : l.length ≤ 1000) : ref16_Remove (l.map toR) id = some ((l.filter (kp id)).map toR, decide (((l.filter (kp id)).length : Int) < (l.length : Int))) := by
  unfold ref16_Remove
  rw [chk_bind (by simp only [szMax, List.length_map]; omega), rremove_L0 l 0 [] (by simp <;> omega), Option.bind_some, List.nil_append, List.length_map, List.length_map]
theorem index_L0 {id : Int} : ∀ (l : List Vt) (i : Nat), (slices_IndexFunc_quaysidevaryvariant_f43_L0 id l i = some (Fl.go ()) ∧ ∀ v ∈ l, kp id v = true) ∨
    ∃ a x b, l = a ++ x :: b ∧ (∀ v ∈ a, kp id v = true) ∧ kp id x = false ∧ slices_IndexFunc_quaysidevaryvariant_f43_L0 id l i = some (Fl.ret ((i + a.length : Nat) : Int))
  | [], i => .inl ⟨rfl, by simp⟩
  | v :: l, i => by
    rw [slices_IndexFunc_quaysidevaryvariant_f43_L0, show vary_Set_Remove_1 v id = some (decide (v.id = id)) from rfl, Option.bind_some]
    by_cases k : v.id = id
    · rw [if_pos (by simpa using k)]
      exact .inr ⟨[], v, l, rfl, by simp, by simp [kp, k], rfl⟩
    · rw [if_neg (by simpa using k)]
      have hk : kp id v = true := by simp [kp, k]
      rcases index_L0 l (i + 1) with ⟨h1, h2⟩ | ⟨a, x, b, h1, h2, h3, h4⟩
      · exact .inl ⟨h1, fun w hw => by
          rcases List.mem_cons.1 hw with rfl | hw
          · exact hk
          · exact h2 w hw⟩
      · refine .inr ⟨v :: a, x, b, by rw [h1]; rfl, fun w hw => ?_, h3, ?_⟩
        · rcases List.mem_cons.1 hw with rfl | hw
          · exact hk
          · exact h2 w hw
        · rw [h4, List.length_cons, show i + 1 + a.length = i + (a.length + 1) from by omega]
theorem delete_L0 {l : List Vt} {id : Int} (hl : l.length ≤ 1000) : ∀ (c fuel i j : Nat) (d : List Vt), j + c = l.length → c < fuel → i < j → d.length = l.length → d.take i = (l.take j).filter (kp id) → d.drop j = l.drop j →
    ∃ (i' : Nat) (d' : List Vt), slices_DeleteFunc_quaysidevaryvariant_f43_tk_L0 l id fuel (i : Int) (j : Int) d = some ((i' : Int), (l.length : Int), d') ∧ i' ≤ l.length ∧ d'.length = l.length ∧ d'.take i' = l.filter (kp id)
  | 0, fuel + 1, i, j, d, hj, hc, hi, hd, ht, hr => by
    rw [slices_DeleteFunc_quaysidevaryvariant_f43_tk_L0, if_neg (by simp; omega)]
    refine ⟨i, d, by rw [show (j : Int) = (l.length : Int) from by omega], by omega, hd, ?_⟩
    rw [ht, List.take_of_length_le (by omega)]
  | c + 1, fuel + 1, i, j, d, hj, hc, hi, hd, ht, hr => by
    have hjl : j < l.length := by omega
    have hjd : j < d.length := by omega
    have h1 : d[j]? = some l[j] := by
      have := congrArg List.head? hr
      rw [List.head?_drop, List.head?_drop, List.getElem?_eq_getElem hjl] at this; exact this
    have hx : ix d (j : Int) = some l[j] := by unfold ix; rw [if_pos (by omega)]; simpa using h1
    have hr2 : d.drop (j + 1) = l.drop (j + 1) := by
      have := congrArg (List.drop 1) hr
      rwa [List.drop_drop, List.drop_drop] at this
    have htk : (l.take (j + 1)).filter (kp id) = (l.take j).filter (kp id) ++ [l[j]].filter (kp id) := by rw [List.take_succ_eq_append_getElem hjl, List.filter_append]
    have e1 : ((j : Int) + 1) = ((j + 1 : Nat) : Int) := by omega
    have e2 : ((i : Int) + 1) = ((i + 1 : Nat) : Int) := by omega
    rw [slices_DeleteFunc_quaysidevaryvariant_f43_tk_L0, if_pos (by simp; omega), hx, Option.bind_some, show vary_Set_Remove_1 l[j] id = some (decide (l[j].id = id)) from rfl, Option.bind_some]
    by_cases k : l[j].id = id
    · have hk : kp id l[j] = false := by simp [kp, k]
      rw [if_neg (by simpa using k), chk_bind (by constructor <;> omega), e1]
      exact delete_L0 hl c fuel i (j + 1) d (by omega) (by omega) (by omega) hd (by rw [htk, ht]; simp [hk]) hr2
    · have hk : kp id l[j] = true := by simp [kp, k]
      obtain ⟨w, hw⟩ : ∃ w, ix d (i : Int) = some w := by
        unfold ix; rw [if_pos (by omega)]
        exact ⟨d[i]'(by omega), by simp⟩
      rw [if_pos (by simpa using k), hw, Option.bind_some, chk_bind (by constructor <;> omega), chk_bind (by constructor <;> omega), e1, e2, show ((i : Int)).toNat = i from rfl]
      refine delete_L0 hl c fuel (i + 1) (j + 1) (d.set i l[j]) (by omega) (by omega) (by omega) (by rw [List.length_set]; exact hd) ?_ ?_
      · rw [htk, ← ht, List.take_succ_eq_append_getElem (by rw [List.length_set]; omega), List.take_set_of_le (Nat.le_refl i)]
        simp [hk]
      · rw [List.drop_set_of_lt (by omega)]; exact hr2
theorem remove_eq {n : Nat} {l : List Vt} {id : Int} (hn : 1000 ≤ n) (h : l.length ≤ 900) : vary_Set_Remove n ⟨l⟩ id = some (decide (((l.filter (kp id)).length : Int) < (l.length : Int)), ⟨l.filter (kp id)⟩) := by
  have hd : slices_DeleteFunc_quaysidevaryvariant_f43_tk n l id = some (l.filter (kp id)) := by
    unfold slices_DeleteFunc_quaysidevaryvariant_f43_tk slices_IndexFunc_quaysidevaryvariant_f43
    rw [chk_bind (by simp only [szMax]; omega)]
    rcases index_L0 (id := id) l 0 with ⟨h1, h2⟩ | ⟨a, x, b, h1, h2, h3, h4⟩
    · rw [h1, List.filter_eq_self.2 h2]
      rfl
    · rw [h4, Option.bind_some]
      show ((some ((0 + a.length : Nat) : Int)).bind _) = _
      have hal : a.length < l.length := by rw [h1]; simp
      rw [Option.bind_some, if_neg (by rw [decide_eq_true_eq]; omega), chk_bind (by constructor <;> omega), Nat.zero_add, show ((a.length : Int) + 1) = ((a.length + 1 : Nat) : Int) from by omega]
      obtain ⟨i', d', hr, q1, q2, q3⟩ := delete_L0 (l := l) (id := id) (by omega) (l.length - (a.length + 1)) n a.length (a.length + 1) l (by omega) (by omega) (by omega) rfl (by
        have e1 : l.take a.length = a := by rw [h1]; simp
        have e2 : l.take (a.length + 1) = a ++ [x] := by rw [h1, show a ++ x :: b = (a ++ [x]) ++ b from by simp, List.take_append_of_le_length (by simp), List.take_of_length_le (by simp)]
        rw [e1, e2, List.filter_append, List.filter_eq_self.2 h2]
        simp [h3]) rfl
      rw [hr, Option.bind_some]
      have hcl : (SL.clr d' i' (⟨[], ([] : Str), 0⟩ : Vt)).length = l.length := by unfold SL.clr; simp; omega
      rw [chk_bind (by simp only; omega)]
      show ((chk (0 ≤ (0 : Int) ∧ (0 : Int) ≤ (i' : Int) ∧ (i' : Int) ≤ ((SL.clr d' i' (⟨[], ([] : Str), 0⟩ : Vt)).length : Int))).bind fun _ => some (subL (SL.clr d' i' (⟨[], ([] : Str), 0⟩ : Vt)) (0 : Int) (i' : Int))) = _
      rw [chk_bind (by rw [hcl]; omega)]
      have e3 : subL (SL.clr d' i' (⟨[], ([] : Str), 0⟩ : Vt)) (0 : Int) (i' : Int) = d'.take i' := by
        unfold subL SL.clr
        rw [show ((0 : Int)).toNat = 0 from rfl, List.drop_zero, show ((i' : Int) - 0).toNat = i' from by omega, List.take_append_of_le_length (by simp; omega), List.take_of_length_le (by simp; omega)]
      rw [e3, q3]
  unfold vary_Set_Remove
  show ((slices_DeleteFunc_quaysidevaryvariant_f43_tk n l id).bind _) = _
  rw [hd]; rfl
end Vary
