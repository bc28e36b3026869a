/- FanoutWhole: what each reader has read is a part of what was written. -/
import Derived.Test.YtpmdpondlmkojaaFanout
import Derived.Test.YtpmdpondlmkojaaPlain
set_option linter.unusedVariables false
set_option linter.unusedSimpArgs false
open Go Go.SL Go.Proofs Pl
namespace Fanout
theorem wr {n : Int} (h : -1000000000000000000 ≤ n ∧ n ≤ 1000000000000000000) : IntKind.i64.wrap n = n := wrap_in (by simp only [InK]; omega)
theorem ix_nth {α : Type} {l : List α} {k : Nat} (d : α) (h : k < l.length) : ix l (k : Int) = some (l.getD k d) := by
  unfold ix; rw [if_pos (by omega)]
  simp [h]
theorem set_nth {α : Type} {l : List α} {k j : Nat} {v d : α} (h : k < l.length) : (l.set k v).getD j d = if j = k then v else l.getD j d := by
  by_cases q : j = k
  · subst q; simp [h]
  · rw [if_neg q]
    simp only [List.getD_eq_getElem?_getD]
    rw [List.getElem?_set_ne (fun e => q e.symm)]
theorem elg' {ρ σ γ : Type} {y : σ} {f : ρ → Option γ} {g : σ → Option γ} : (Fl.go y : Fl ρ σ).el f g = g y := rfl
/-- What is known of reader k. -/
structure RK (D : Str) (st : Int) (offs : List (Int × Int)) (k : Nat) (at_ : Int) (en att : Bool) (rd : Str) : Prop where
  yes : att = true → 0 ≤ at_ ∧ mget offs (k : Int) = some (at_ + rd.length) ∧ at_ + rd.length ≤ D.length ∧ rd = (D.drop at_.toNat).take rd.length ∧ (en = true → st = 2 ∧ at_ + rd.length = D.length)
  no : att = false → mget offs (k : Int) = none ∧ rd = [] ∧ en = false
structure WV (m : Nat) (D : Str) (st : Int) (offs : List (Int × Int)) (AT : List Int) (EN ATT : List Bool) (RD : List Str) : Prop where
  a : AT.length = m
  e : EN.length = m
  t : ATT.length = m
  r : RD.length = m
  k : ∀ k, k < m → RK D st offs k (AT.getD k 0) (EN.getD k false) (ATT.getD k false) (RD.getD k [])
theorem RK.write {D p : Str} {offs : List (Int × Int)} {k : Nat} {at_ : Int} {en att : Bool} {rd : Str} (h : RK D 1 offs k at_ en att rd) : RK (D ++ p) 1 offs k at_ en att rd := by
  refine ⟨fun ha => ?_, h.no⟩
  obtain ⟨h1, h2, h3, h4, h5⟩ := h.yes ha
  refine ⟨h1, h2, by rw [List.length_append]; omega, ?_, fun he => by have := (h5 he).1; omega⟩
  have hle : rd.length ≤ (D.drop at_.toNat).length := by rw [List.length_drop]; omega
  rw [List.drop_append_of_le_length (by omega), List.take_append_of_le_length hle]; exact h4
theorem RK.fin {D : Str} {offs : List (Int × Int)} {k : Nat} {at_ : Int} {en att : Bool} {rd : Str} (h : RK D 1 offs k at_ en att rd) : RK D 2 offs k at_ en att rd := by
  refine ⟨fun ha => ?_, h.no⟩
  obtain ⟨h1, h2, h3, h4, h5⟩ := h.yes ha
  exact ⟨h1, h2, h3, h4, fun he => by have := (h5 he).1; omega⟩
theorem part_eq {a b : Str} {al : Bool} (h1 : a.length ≤ b.length) (h2 : a = b.take a.length) (h3 : al = true → a.length = b.length) : law28_part a b al = some true := by
  unfold law28_part
  rw [if_pos (by simpa using h1), chk_bind (by omega)]
  have hs : subL b (0 : Int) (a.length : Int) = a := by
    unfold subL
    rw [show ((0 : Int)).toNat = 0 from rfl, List.drop_zero, show ((a.length : Int) - 0).toNat = a.length from by omega]
    exact h2.symm
  rw [show base_Bytes a (subL b (0 : Int) (a.length : Int)) = some (decide (a = subL b (0 : Int) (a.length : Int))) from rfl, hs, Option.bind_some, Option.bind_some, if_pos (by simp)]
  cases al with
  | false => rfl
  | true => simp [h3 rfl]
/-- One read: what comes behind what has been read. -/
theorem read_step {D : Str} {a : Int} {rd : Str} {mx : Int} {s : Fs} (hs : s.data = D) (h0 : 0 ≤ a) (h1 : a + rd.length ≤ D.length) (h2 : rd = (D.drop a.toNat).take rd.length) :
    rd ++ outF s (a + rd.length) mx = (D.drop a.toNat).take (rd ++ outF s (a + rd.length) mx).length ∧ a + (rd ++ outF s (a + rd.length) mx).length ≤ D.length := by
  have hol := outF_len s (a + rd.length) mx (by rw [hs]; omega)
  rw [hs] at hol
  have hlen : ((rd ++ outF s (a + rd.length) mx).length : Int) = rd.length + (outF s (a + rd.length) mx).length := by rw [List.length_append]; omega
  refine ⟨?_, by omega⟩
  have e1 : outF s (a + rd.length) mx = ((D.drop a.toNat).drop rd.length).take (outF s (a + rd.length) mx).length := by
    have e2 : outF s (a + rd.length) mx = ((D.drop a.toNat).drop rd.length).take mx.toNat := by
      unfold outF
      rw [hs, List.drop_drop, show (a + (rd.length : Int)).toNat = a.toNat + rd.length from by omega]
    rw [e2, List.length_take]
    rw [List.take_eq_take_iff]; simp
  rw [List.length_append, List.take_add, ← e1, ← h2]
theorem WV.upd {m : Nat} {D : Str} {st : Int} {offs offs' : List (Int × Int)} {AT AT' : List Int} {EN EN' ATT ATT' : List Bool} {RD RD' : List Str} (h : WV m D st offs AT EN ATT RD) (i : Nat) (hi : i < m)
    (ho : ∀ k : Nat, k ≠ i → mget offs' (k : Int) = mget offs (k : Int))
    (h1 : AT'.length = m) (h2 : EN'.length = m) (h3 : ATT'.length = m) (h4 : RD'.length = m)
    (g1 : ∀ k, k ≠ i → AT'.getD k 0 = AT.getD k 0) (g2 : ∀ k, k ≠ i → EN'.getD k false = EN.getD k false) (g3 : ∀ k, k ≠ i → ATT'.getD k false = ATT.getD k false) (g4 : ∀ k, k ≠ i → RD'.getD k [] = RD.getD k [])
    (hk : RK D st offs' i (AT'.getD i 0) (EN'.getD i false) (ATT'.getD i false) (RD'.getD i [])) : WV m D st offs' AT' EN' ATT' RD' := by
  refine ⟨h1, h2, h3, h4, fun k hkm => ?_⟩
  by_cases q : k = i
  · subst q; exact hk
  · rw [g1 k q, g2 k q, g3 k q, g4 k q]
    have := h.k k hkm
    exact ⟨fun ha => by rw [ho k q]; exact this.yes ha, fun ha => by rw [ho k q]; exact this.no ha⟩
theorem mget_other {offs : List (Int × Int)} {i k : Nat} {v : Int} (h : k ≠ i) : mget (mset offs (i : Int) v) (k : Int) = mget offs (k : Int) := by
  rw [mget_mset, if_neg (by omega)]
/-- One reader reads: the rest of a round. -/
theorem round {D : Str} {paces : Str} {y22 turn : Int} {parts : List Str} {st L : Int} {m : Nat} {s0 : Fs} {e4 : UInt8} (hm : m ≤ 10) (hD : D.length ≤ 2000) (hst : st = 1 ∨ st = 2) (hend : st = 2 → ¬ y22 < (parts.length : Int)) (hpl : paces.length ≤ 40) (ht : 0 ≤ turn ∧ turn ≤ 100000)
    {i : Nat} (hi : i < m) {offs : List (Int × Int)} {AT : List Int} {EN ATT : List Bool} {RD : List Str} (hw : WV m D st offs AT EN ATT RD) (hat : ATT.getD i false = true) {γ : Type} (rest : Int → List Bool → List Str → Fs → Option (Fl Bool γ)) :
    ∃ EN' RD' offs', WV m D st offs' AT EN' ATT RD' ∧
    (((if decide ((paces.length : Int) > 0) then
    (chk ((paces.length : Int) ≠ 0)).bind fun _ =>
    (ix paces (Int.tmod turn (paces.length : Int))).bind fun x177 =>
    some (x177.toNat : Int)
    else
    some 3 : Option (Int))).bind fun t947 =>
    (fanout_Stream_Read ⟨L, st, D, offs⟩ (i : Int) t947).bind fun x186 =>
    if (x186.2.2.1.isSome || decide ((x186.1.length : Int) > t947)) then
    some (Fl.ret false)
    else
    (ix EN (i : Int)).bind fun x201 =>
    if (x201 && decide ((x186.1.length : Int) > 0)) then
    some (Fl.ret false)
    else
    (ix RD (i : Int)).bind fun x213 =>
    (chk (x213.length + x186.1.length ≤ lim)).bind fun _ =>
    (ix RD (i : Int)).bind fun x217 =>
    (ix EN (i : Int)).bind fun x222 =>
    (ix (RD.set (((i : Int)).toNat) (x213 ++ x186.1)) (i : Int)).bind fun x225 =>
    (ix AT (i : Int)).bind fun x230 =>
    (chk (0 ≤ x230 ∧ x230 ≤ (D.length : Int) ∧ (D.length : Int) ≤ (D.length : Int))).bind fun _ =>
    (ix (EN.set (((i : Int)).toNat) (decide (x186.2.1 = 2))) (i : Int)).bind fun x235 =>
    (law28_part x225 (subL D x230 (D.length : Int)) x235).bind fun x237 =>
    if (!x237) then
    some (Fl.ret false)
    else
    (ix (EN.set (((i : Int)).toNat) (decide (x186.2.1 = 2))) (i : Int)).bind fun x242 =>
    if (x242 && decide (y22 < (parts.length : Int))) then
    some (Fl.ret false)
    else
    rest (IntKind.i64.wrap (turn + 1)) (EN.set (((i : Int)).toNat) (decide (x186.2.1 = 2))) (RD.set (((i : Int)).toNat) (x213 ++ x186.1)) x186.2.2.2) = rest (turn + 1) EN' RD' ⟨L, st, D, offs'⟩ := by
  have hAT := hw.a; have hEN := hw.e; have hTT := hw.t; have hRD := hw.r
  obtain ⟨k1, k2, k3, k4, k5⟩ := (hw.k i hi).yes hat
  generalize eA : AT.getD i 0 = A at *
  generalize eR : RD.getD i [] = rd at *
  obtain ⟨pc, hpc, hp0⟩ : ∃ pc : Int, (((if decide ((paces.length : Int) > 0) then
    (chk ((paces.length : Int) ≠ 0)).bind fun _ =>
    (ix paces (Int.tmod turn (paces.length : Int))).bind fun x177 =>
    some (x177.toNat : Int)
    else
    some 3 : Option (Int)))) = some pc ∧ 0 ≤ pc := by
    by_cases q : (paces.length : Int) > 0
    · rw [if_pos (by simpa using q), chk_bind (by omega)]
      have e1 : Int.tmod turn (paces.length : Int) = ((turn.toNat % paces.length : Nat) : Int) := by
        rw [Int.tmod_eq_emod_of_nonneg ht.1]
        rw [show turn = (turn.toNat : Int) from by omega]; simp
      rw [e1, ix_nth (0 : UInt8) (Nat.mod_lt _ (by omega))]
      exact ⟨_, rfl, by omega⟩
    · rw [if_neg (by simpa using q)]; exact ⟨3, rfl, by omega⟩
  rw [hpc, Option.bind_some]
  have hrd := read_eq ⟨L, st, D, offs⟩ (i : Int) pc (A + rd.length) k2 (by show st ≠ 3; omega) (by show 0 ≤ A + (rd.length : Int) ∧ A + (rd.length : Int) ≤ (D.length : Int); omega) (by show D.length ≤ 1000000; omega)
  rw [hrd, Option.bind_some]
  simp only
  obtain ⟨q1, q2⟩ := read_step (s := ⟨L, st, D, offs⟩) (D := D) (a := A) (rd := rd) (mx := pc) rfl k1 k3 k4
  generalize hb : outF ⟨L, st, D, offs⟩ (A + (rd.length : Int)) pc = b at *
  have hbl : (b.length : Int) ≤ pc := by rw [← hb]; unfold outF; rw [List.length_take]; omega
  have hbl2 : A + rd.length + b.length ≤ D.length := by rw [List.length_append] at q2; omega
  have hnat : ((i : Int)).toNat = i := by omega
  rw [if_neg (by simp; omega), ix_nth false (by omega), Option.bind_some]
  have hne : ¬ ((EN.getD i false && decide ((b.length : Int) > 0)) = true) := by
    intro h
    rw [Bool.and_eq_true, decide_eq_true_eq] at h
    have := (k5 h.1).2
    omega
  rw [if_neg hne, ix_nth [] (by omega), eR, Option.bind_some, chk_bind (by simp only [lim]; omega), Option.bind_some, Option.bind_some, hnat]
  rw [ix_nth (l := RD.set i (rd ++ b)) [] (by rw [List.length_set]; omega), set_nth (by omega), if_pos rfl, Option.bind_some, ix_nth 0 (by omega), eA, Option.bind_some, chk_bind (by omega)]
  generalize hs2 : (if st = 2 ∧ A + (rd.length : Int) + (b.length : Int) = (D.length : Int) then (2 : Int) else 1) = s2
  have hs2t : decide (s2 = 2) = true → st = 2 ∧ A + rd.length + b.length = D.length := fun h => by
    rw [← hs2] at h
    split at h
    · rename_i q; exact q
    · exact absurd (of_decide_eq_true h) (by decide)
  rw [ix_nth (l := EN.set i (decide (s2 = 2))) false (by rw [List.length_set]; omega), set_nth (by omega), if_pos rfl, Option.bind_some]
  have hsub : subL D A (D.length : Int) = D.drop A.toNat := by
    unfold subL; rw [List.take_of_length_le (by rw [List.length_drop]; omega)]
  have hpart : law28_part (rd ++ b) (subL D A (D.length : Int)) (decide (s2 = 2)) = some true := by
    rw [hsub]
    refine part_eq (by rw [List.length_drop]; omega) q1 (fun h => ?_)
    have := hs2t h
    rw [List.length_drop, List.length_append]; omega
  rw [hpart, Option.bind_some, Bool.not_true, if_neg (by simp), Option.bind_some]
  rw [if_neg (by
    intro h
    rw [Bool.and_eq_true, decide_eq_true_eq] at h
    exact hend (hs2t (decide_eq_true h.1)).1 (of_decide_eq_true h.2))]
  rw [wr (by omega)]
  refine ⟨_, _, _, ?_, rfl⟩
  refine hw.upd i hi (fun k hk => mget_other hk) hAT (by rw [List.length_set]; omega) hTT (by rw [List.length_set]; omega) (fun _ _ => rfl) (fun k hk => by rw [set_nth (by omega), if_neg hk]) (fun _ _ => rfl) (fun k hk => by rw [set_nth (by omega), if_neg hk]) ?_
  rw [set_nth (by omega), if_pos rfl, set_nth (by omega), if_pos rfl, eA, hat]
  refine ⟨fun _ => ⟨k1, by rw [mget_mset, if_pos rfl, List.length_append]; congr 1; omega, q2, q1, fun h => ?_⟩, fun h => by cases h⟩
  have := hs2t h
  exact ⟨this.1, by rw [List.length_append]; omega⟩
theorem whole_L4 {D : Str} {s0 : Fs} {paces : Str} {y22 : Int} {parts : List Str} {st L : Int} {m : Nat} (hm : m ≤ 10) (hD : D.length ≤ 2000) (hst : st = 1 ∨ st = 2) (hend : st = 2 → ¬ y22 < (parts.length : Int)) (hpl : paces.length ≤ 40) :
    ∀ (r : Str) (i : Nat) (turn : Int) (offs : List (Int × Int)) (AT : List Int) (EN ATT : List Bool) (RD : List Str), i + r.length = m → 0 ≤ turn ∧ turn + r.length ≤ 100000 → WV m D st offs AT EN ATT RD →
    ∃ turn' offs' AT' EN' ATT' RD', law28_FanoutWhole_L4 (D, s0) paces y22 parts r i turn ATT AT EN RD ⟨L, st, D, offs⟩ = some (Fl.go (turn', ATT', AT', EN', RD', ⟨L, st, D, offs'⟩)) ∧ WV m D st offs' AT' EN' ATT' RD' ∧ turn ≤ turn' ∧ turn' ≤ turn + r.length
  | [], i, turn, offs, AT, EN, ATT, RD, hi, ht, hw => ⟨turn, offs, AT, EN, ATT, RD, rfl, hw, by omega, by simp⟩
  | e4 :: r, i, turn, offs, AT, EN, ATT, RD, hi, ht, hw => by
    simp only [List.length_cons] at hi ht ⊢
    have him : i < m := by omega
    have hAT := hw.a; have hEN := hw.e; have hTT := hw.t; have hRD := hw.r
    have hnat : ((i : Int)).toNat = i := by omega
    have e48 := e4.toNat_lt
    rw [law28_FanoutWhole_L4, ix_nth false (by omega), Option.bind_some]
    -- behind the attaching
    have main : ∀ (offs1 : List (Int × Int)) (AT1 : List Int) (ATT1 : List Bool), WV m D st offs1 AT1 EN ATT1 RD →
        ∃ turn' offs' AT' EN' ATT' RD', ((ix ATT1 (i : Int)).bind fun x166 =>
          if (!x166) = true then law28_FanoutWhole_L4 (D, s0) paces y22 parts r (i + 1) turn ATT1 AT1 EN RD ⟨L, st, D, offs1⟩
          else
          ((if decide ((paces.length : Int) > 0) then
          (chk ((paces.length : Int) ≠ 0)).bind fun _ =>
          (ix paces (Int.tmod turn (paces.length : Int))).bind fun x177 =>
          some (x177.toNat : Int)
          else
          some 3 : Option (Int))).bind fun t947 =>
          (fanout_Stream_Read ⟨L, st, D, offs1⟩ (i : Int) t947).bind fun x186 =>
          if (x186.2.2.1.isSome || decide ((x186.1.length : Int) > t947)) then
          some (Fl.ret false)
          else
          (ix EN (i : Int)).bind fun x201 =>
          if (x201 && decide ((x186.1.length : Int) > 0)) then
          some (Fl.ret false)
          else
          (ix RD (i : Int)).bind fun x213 =>
          (chk (x213.length + x186.1.length ≤ lim)).bind fun _ =>
          (ix RD (i : Int)).bind fun x217 =>
          (ix EN (i : Int)).bind fun x222 =>
          (ix (RD.set (((i : Int)).toNat) (x213 ++ x186.1)) (i : Int)).bind fun x225 =>
          (ix AT1 (i : Int)).bind fun x230 =>
          (chk (0 ≤ x230 ∧ x230 ≤ (D.length : Int) ∧ (D.length : Int) ≤ (D.length : Int))).bind fun _ =>
          (ix (EN.set (((i : Int)).toNat) (decide (x186.2.1 = 2))) (i : Int)).bind fun x235 =>
          (law28_part x225 (subL D x230 (D.length : Int)) x235).bind fun x237 =>
          if (!x237) then
          some (Fl.ret false)
          else
          (ix (EN.set (((i : Int)).toNat) (decide (x186.2.1 = 2))) (i : Int)).bind fun x242 =>
          if (x242 && decide (y22 < (parts.length : Int))) then
          some (Fl.ret false)
          else
          law28_FanoutWhole_L4 (D, s0) paces y22 parts r (i + 1) (IntKind.i64.wrap (turn + 1)) ATT1 AT1 (EN.set (((i : Int)).toNat) (decide (x186.2.1 = 2))) (RD.set (((i : Int)).toNat) (x213 ++ x186.1)) x186.2.2.2) = some (Fl.go (turn', ATT', AT', EN', RD', ⟨L, st, D, offs'⟩)) ∧ WV m D st offs' AT' EN' ATT' RD' ∧ turn ≤ turn' ∧ turn' ≤ turn + (r.length + 1) := by
      intro offs1 AT1 ATT1 hw1
      rw [ix_nth false (by rw [hw1.t]; exact him), Option.bind_some]
      cases q : ATT1.getD i false with
      | false =>
        rw [Bool.not_false, if_pos rfl]
        obtain ⟨turn', offs', AT', EN', ATT', RD', g1, g2, g3, g4⟩ := whole_L4 (s0 := s0) (L := L) hm hD hst hend hpl r (i + 1) turn offs1 AT1 EN ATT1 RD (by omega) (by omega) hw1
        exact ⟨turn', offs', AT', EN', ATT', RD', g1, g2, g3, by omega⟩
      | true =>
        rw [Bool.not_true, if_neg (by simp)]
        obtain ⟨EN2, RD2, offs2, hw2, hr⟩ := round (L := L) (s0 := s0) (e4 := e4) hm hD hst hend hpl ⟨ht.1, by omega⟩ him hw1 q (fun a b c d => law28_FanoutWhole_L4 (D, s0) paces y22 parts r (i + 1) a ATT1 AT1 b c d)
        obtain ⟨turn', offs', AT', EN', ATT', RD', g1, g2, g3, g4⟩ := whole_L4 (s0 := s0) (L := L) hm hD hst hend hpl r (i + 1) (turn + 1) offs2 AT1 EN2 ATT1 RD2 (by omega) (by omega) hw2
        exact ⟨turn', offs', AT', EN', ATT', RD', hr.trans g1, g2, by omega, by omega⟩
    cases q : ATT.getD i false with
    | true =>
      rw [Bool.not_true, if_neg (by simp)]
      exact main offs AT ATT hw
    | false =>
      obtain ⟨n1, n2, n3⟩ := (hw.k i him).no q
      rw [Bool.not_false, if_pos rfl, ix_nth 0 (by omega), Option.bind_some, hnat, ix_nth 0 (by rw [List.length_set]; omega), set_nth (by omega), if_pos rfl, Option.bind_some, attach_eq]
      have hsome : ¬ (mget offs (i : Int)).isSome = true := by rw [n1]; simp
      simp only
      rw [if_neg hsome]
      by_cases g : (e4.toNat : Int) < 0 ∨ (e4.toNat : Int) > (D.length : Int)
      · rw [if_pos g, Option.bind_some, Option.bind_some]
        simp only [Option.isNone_some]
        rw [ix_nth (l := ATT.set i false) false (by rw [List.length_set]; omega), set_nth (by omega), if_pos rfl, Option.bind_some, Option.bind_some, show decide ((e4.toNat : Int) ≤ (D.length : Int)) = false from decide_eq_false (by omega)]
        rw [if_neg (by simp)]
        refine main offs (AT.set i (e4.toNat : Int)) (ATT.set i false) ?_
        refine hw.upd i him (fun _ _ => rfl) (by rw [List.length_set]; omega) hEN (by rw [List.length_set]; omega) hRD (fun k hk => by rw [set_nth (by omega), if_neg hk]) (fun _ _ => rfl) (fun k hk => by rw [set_nth (by omega), if_neg hk]) (fun _ _ => rfl) ?_
        rw [set_nth (l := ATT) (by omega), if_pos rfl]
        exact ⟨(fun h => by cases h), fun _ => ⟨n1, n2, n3⟩⟩
      · rw [if_neg g, Option.bind_some, Option.bind_some]
        simp only [Option.isNone_none]
        rw [ix_nth (l := ATT.set i true) false (by rw [List.length_set]; omega), set_nth (by omega), if_pos rfl, Option.bind_some, Option.bind_some, show decide ((e4.toNat : Int) ≤ (D.length : Int)) = true from decide_eq_true (by omega)]
        rw [if_neg (by simp)]
        refine main (mset offs (i : Int) (e4.toNat : Int)) (AT.set i (e4.toNat : Int)) (ATT.set i true) ?_
        refine hw.upd i him (fun k hk => mget_other hk) (by rw [List.length_set]; omega) hEN (by rw [List.length_set]; omega) hRD (fun k hk => by rw [set_nth (by omega), if_neg hk]) (fun _ _ => rfl) (fun k hk => by rw [set_nth (by omega), if_neg hk]) (fun _ _ => rfl) ?_
        rw [set_nth (l := ATT) (by omega), if_pos rfl, set_nth (l := AT) (by omega), if_pos rfl, n2, n3]
        refine ⟨fun _ => ⟨by omega, by rw [mget_mset, if_pos rfl]; simp, by simp; omega, by simp, fun h => by cases h⟩, fun h => by cases h⟩
theorem WV.write {m : Nat} {D p : Str} {offs : List (Int × Int)} {AT : List Int} {EN ATT : List Bool} {RD : List Str} (h : WV m D 1 offs AT EN ATT RD) : WV m (D ++ p) 1 offs AT EN ATT RD := ⟨h.a, h.e, h.t, h.r, fun k hk => (h.k k hk).write⟩
theorem WV.fin {m : Nat} {D : Str} {offs : List (Int × Int)} {AT : List Int} {EN ATT : List Bool} {RD : List Str} (h : WV m D 1 offs AT EN ATT RD) : WV m D 2 offs AT EN ATT RD := ⟨h.a, h.e, h.t, h.r, fun k hk => (h.k k hk).fin⟩
def totL (l : List Str) : Nat := (l.map List.length).sum
theorem whole_L2 {parts : List Str} {from_ paces : Str} {L : Int} (hp : parts.length ≤ 20) (hf : from_.length ≤ 10) (hpl : paces.length ≤ 40) : ∀ (r : List Str) (i fuel : Nat) (D : Str) (turn : Int) (offs : List (Int × Int)) (AT : List Int) (EN ATT : List Bool) (RD : List Str),
    parts.drop i = r → i + r.length = parts.length → r.length + 1 < fuel → D.length + totL r ≤ 2000 → ((D.length + totL r : Nat) : Int) ≤ L → 0 ≤ turn ∧ turn ≤ i * 10 → WV from_.length D 1 offs AT EN ATT RD →
    ∃ D' turn' offs' AT' EN' ATT' RD' z, law28_FanoutWhole_L2b parts from_ paces fuel D turn (i : Int) ATT AT EN RD ⟨L, 1, D, offs⟩ = some (Fl.go (D', turn', z, ATT', AT', EN', RD', ⟨L, 2, D', offs'⟩)) ∧ WV from_.length D' 2 offs' AT' EN' ATT' RD' ∧ D'.length = D.length + totL r
  | [], i, fuel + 1, D, turn, offs, AT, EN, ATT, RD, hd, hi, hfu, hD, hL, ht, hw => by
    simp only [List.length_nil] at hi hfu
    have hend : fanout_Stream_End ⟨L, 1, D, offs⟩ = some (none, ⟨L, 2, D, offs⟩) := by
      unfold fanout_Stream_End
      rw [open_eq]; rfl
    have e0 : totL [] = 0 := rfl
    rw [law28_FanoutWhole_L2b, if_pos (by simp; omega), if_neg (by simp; omega), hend, Option.bind_some]
    simp only [Option.isSome_none, Bool.false_eq_true, if_false, Option.bind_some]
    rw [elg', chk_bind (by simp only [szMax]; omega)]
    obtain ⟨turn', offs', AT', EN', ATT', RD', g1, g2, g3, g4⟩ := whole_L4 (s0 := ⟨L, 2, D, offs⟩) (L := L) (paces := paces) (parts := parts) (y22 := (i : Int)) hf (by omega) (.inr rfl) (fun _ => by omega) hpl from_ 0 turn offs AT EN ATT RD (by omega) (by omega) hw.fin
    rw [g1, Option.bind_some, elg', wr (by omega)]
    obtain ⟨f2, rfl⟩ : ∃ f2, fuel = f2 + 1 := ⟨fuel - 1, by omega⟩
    rw [law28_FanoutWhole_L2b, if_neg (by simp; omega)]
    exact ⟨D, turn', offs', AT', EN', ATT', RD', (i : Int) + 1, rfl, g2, by omega⟩
  | p :: r, i, fuel + 1, D, turn, offs, AT, EN, ATT, RD, hd, hi, hfu, hD, hL, ht, hw => by
    simp only [List.length_cons] at hi hfu
    have et : totL (p :: r) = p.length + totL r := by simp [totL]
    rw [et] at hD hL
    have hil : i < parts.length := by omega
    have hix : ix parts (i : Int) = some p := by
      have h1 := congrArg List.head? hd
      rw [List.head?_drop] at h1
      unfold ix; rw [if_pos (by omega)]; simpa using h1
    have hdr : parts.drop (i + 1) = r := by
      have := congrArg List.tail hd
      rwa [List.tail_drop] at this
    have hwr : fanout_Stream_Write ⟨L, 1, D, offs⟩ p = some (none, ⟨L, 1, D ++ p, offs⟩) := by
      have h1 := write_eq ⟨L, 1, D, offs⟩ p (by show D.length + p.length ≤ 1000000; omega) rfl
      have h2 : ¬ (D.length + p.length : Int) > L := by omega
      rw [h1, if_neg h2]
    have hDp : (D ++ p).length = D.length + p.length := List.length_append ..
    rw [law28_FanoutWhole_L2b, if_pos (by simp; omega), if_pos (by simp; omega), hix, Option.bind_some, hwr, Option.bind_some]
    simp only [Option.isSome_none, Bool.false_eq_true, if_false, Option.bind_some]
    rw [chk_bind (by simp only [lim]; omega), Option.bind_some, elg', chk_bind (by simp only [szMax]; omega)]
    obtain ⟨turn', offs', AT', EN', ATT', RD', g1, g2, g3, g4⟩ := whole_L4 (s0 := ⟨L, 1, D ++ p, offs⟩) (L := L) (paces := paces) (parts := parts) (y22 := (i : Int)) hf (by rw [hDp]; omega) (.inl rfl) (fun h => by omega) hpl from_ 0 turn offs AT EN ATT RD (by omega) (by omega) hw.write
    rw [g1, Option.bind_some, elg', wr (by omega), show ((i : Int) + 1) = ((i + 1 : Nat) : Int) from by omega]
    obtain ⟨D', turn2, offs2, AT2, EN2, ATT2, RD2, z, k1, k2, k3⟩ := whole_L2 (from_ := from_) (L := L) hp hf hpl r (i + 1) fuel (D ++ p) turn' offs' AT' EN' ATT' RD' hdr (by omega) (by omega) (by rw [hDp]; omega) (by rw [hDp]; omega) (by omega) g2
    exact ⟨D', turn2, offs2, AT2, EN2, ATT2, RD2, z, k1, k2, by rw [k3, hDp, et]; omega⟩
theorem whole_L6 {D : Str} {turn z t0 L : Int} {AT : List Int} {EN ATT : List Bool} {RD : List Str} {s0 : Fs} {m : Nat} (hm : m ≤ 10) (hD : D.length ≤ 2000) (ht : (D.length : Int) ≤ t0 ∧ t0 ≤ 2000) (hAT : AT.length = m) (hEN : EN.length = m) (hTT : ATT.length = m) (hRD : RD.length = m) : ∀ (r : Str) (i : Nat) (offs : List (Int × Int)), i + r.length = m → (∀ k, i ≤ k → k < m → RK D 2 offs k (AT.getD k 0) (EN.getD k false) (ATT.getD k false) (RD.getD k [])) →
    ∃ s, law28_FanoutWhole_L6b (D, turn, z, ATT, AT, EN, RD, s0) t0 r i ⟨L, 2, D, offs⟩ = some (Fl.go s)
  | [], i, offs, hi, hw => ⟨_, rfl⟩
  | e6 :: r, i, offs, hi, hw => by
    simp only [List.length_cons] at hi
    have him : i < m := by omega
    rw [law28_FanoutWhole_L6b]
    simp only
    rw [ix_nth false (by omega), Option.bind_some]
    cases q : ATT.getD i false with
    | false =>
      rw [if_neg (by simp), Option.bind_some, if_neg (by simp)]
      exact whole_L6 hm hD ht hAT hEN hTT hRD r (i + 1) offs (by omega) (fun k h1 h2 => hw k (by omega) h2)
    | true =>
      rw [if_pos rfl, ix_nth (l := EN) false (by omega), Option.bind_some, Option.bind_some]
      cases q2 : EN.getD i false with
      | true =>
        rw [if_neg (by simp)]
        exact whole_L6 hm hD ht hAT hEN hTT hRD r (i + 1) offs (by omega) (fun k h1 h2 => hw k (by omega) h2)
      | false =>
        obtain ⟨k1, k2, k3, k4, k5⟩ := (hw i (Nat.le_refl i) him).yes q
        generalize eA : AT.getD i 0 = A at k1 k2 k3 k4 k5
        generalize eR : RD.getD i [] = rd at k2 k3 k4 k5
        rw [Bool.not_false, if_pos rfl, wr (by omega)]
        have hrd := read_eq ⟨L, 2, D, offs⟩ (i : Int) (t0 + 1) (A + rd.length) k2 (by show (2 : Int) ≠ 3; omega) (by show 0 ≤ A + (rd.length : Int) ∧ A + (rd.length : Int) ≤ (D.length : Int); omega) (by show D.length ≤ 1000000; omega)
        obtain ⟨q3, q4⟩ := read_step (s := ⟨L, 2, D, offs⟩) (D := D) (a := A) (rd := rd) (mx := t0 + 1) rfl k1 k3 k4
        have hbl : (A : Int) + rd.length + (outF ⟨L, 2, D, offs⟩ (A + (rd.length : Int)) (t0 + 1)).length = D.length := by
          unfold outF
          rw [List.length_take, List.length_drop]
          show A + (rd.length : Int) + ((min (t0 + 1).toNat (D.length - (A + (rd.length : Int)).toNat) : Nat) : Int) = (D.length : Int)
          omega
        generalize hb : outF ⟨L, 2, D, offs⟩ (A + (rd.length : Int)) (t0 + 1) = b at *
        have hrd2 : fanout_Stream_Read ⟨L, 2, D, offs⟩ (i : Int) (t0 + 1) = some (b, 2, none, ⟨L, 2, D, mset offs (i : Int) (A + (rd.length : Int) + (b.length : Int))⟩) := by
          rw [hrd, if_pos ⟨rfl, hbl⟩]
        rw [hrd2, Option.bind_some]
        simp only
        rw [if_neg (by simp), ix_nth (l := RD) [] (by omega), eR, Option.bind_some, chk_bind (by simp only [lim]; omega), ix_nth (l := AT) 0 (by omega), eA, Option.bind_some, chk_bind (by omega)]
        have hsub : subL D A (D.length : Int) = D.drop A.toNat := by
          unfold subL; rw [List.take_of_length_le (by rw [List.length_drop]; omega)]
        have hpart : law28_part (rd ++ b) (subL D A (D.length : Int)) true = some true := by
          rw [hsub]
          exact part_eq (by rw [List.length_drop]; omega) q3 (fun _ => by rw [List.length_drop, List.length_append]; omega)
        rw [hpart, Option.bind_some, Option.bind_some, if_neg (by simp)]
        refine whole_L6 hm hD ht hAT hEN hTT hRD r (i + 1) _ (by omega) fun k h1 h2 => ?_
        have hk := hw k (by omega) h2
        exact ⟨fun ha => by rw [mget_other (by omega)]; exact hk.yes ha, fun ha => by rw [mget_other (by omega)]; exact hk.no ha⟩
theorem sum_L0 : ∀ (l : List Str) (i : Nat) (y : Int), 0 ≤ y → y + l.length * 140737488355328 ≤ 1000000000000000000 → (∀ x ∈ l, x.length ≤ szMax) → law28_FanoutWhole_L0 l i y = some (y + (totL l : Int))
  | [], i, y, _, _, _ => by simp [law28_FanoutWhole_L0, totL]
  | x :: l, i, y, h0, h1, h2 => by
    have hx := h2 x (List.mem_cons_self ..)
    simp only [szMax] at hx
    simp only [List.length_cons] at h1
    have e : (totL (x :: l) : Int) = x.length + totL l := by simp [totL]
    rw [law28_FanoutWhole_L0, wr (by omega), sum_L0 l (i + 1) _ (by omega) (by omega) (fun z hz => h2 z (List.mem_cons_of_mem _ hz)), e]
    congr 1; omega
theorem sum_any : ∀ (l : List Str) (i : Nat) (y : Int), ∃ z, law28_FanoutWhole_L0 l i y = some z
  | [], i, y => ⟨_, rfl⟩
  | x :: l, i, y => by rw [law28_FanoutWhole_L0]; exact sum_any l (i + 1) _
end Fanout
