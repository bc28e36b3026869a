/- Functions of the program: mirrors, and that a call returns what the mirror says. Printed by gen.py. -/
import Derived.Test.YteliaeachmkiaaaDoorG1
set_option linter.unusedVariables false
set_option linter.unusedSimpArgs false
open Go Go.SL Go.Proofs
set_option maxRecDepth 1000000
noncomputable def syntax_parts_L0 (s : Str) (separator : UInt8) : Nat → (List Str) → Int → Bool → Int → Option ((List Str) × Int × Bool × Int)
  | 0, _, _, _, _ => none
  | xs0 + 1, y0_0, y0_1, y0_2, y0_3 =>
    if decide (y0_3 < (s.length : Int)) then
    (if y0_2 then (ix s y0_3).bind fun x25 =>
    some (decide ((x25.toNat : Int) = 92)) else some false).bind fun x27 =>
    if x27 then
    (chk (InI (y0_3 + 1))).bind fun _ =>
    (chk (InI ((y0_3 + 1) + 1))).bind fun _ =>
    syntax_parts_L0 s separator xs0 y0_0 y0_1 y0_2 ((y0_3 + 1) + 1)
    else
    (ix s y0_3).bind fun x33 =>
    if decide ((x33.toNat : Int) = 34) then
    (chk (InI (y0_3 + 1))).bind fun _ =>
    syntax_parts_L0 s separator xs0 y0_0 y0_1 (!y0_2) (y0_3 + 1)
    else
    (if (!y0_2) then (ix s y0_3).bind fun x43 =>
    some (decide ((x43.toNat : Int) = (separator.toNat : Int))) else some false).bind fun x46 =>
    if x46 then
    (chk (0 ≤ y0_1 ∧ y0_1 ≤ y0_3 ∧ y0_3 ≤ (s.length : Int))).bind fun _ =>
    (trimM (subL s y0_1 y0_3) ([32, 9] : Str)).bind fun x52 =>
    (chk (y0_0.length + [x52].length ≤ lim)).bind fun _ =>
    (chk (InI (y0_3 + 1))).bind fun _ =>
    (chk (InI (y0_3 + 1))).bind fun _ =>
    syntax_parts_L0 s separator xs0 (y0_0 ++ [x52]) (y0_3 + 1) y0_2 (y0_3 + 1)
    else
    (chk (InI (y0_3 + 1))).bind fun _ =>
    syntax_parts_L0 s separator xs0 y0_0 y0_1 y0_2 (y0_3 + 1)
    else
    some (y0_0, y0_1, y0_2, y0_3)
noncomputable def syntax_parts (n : Nat) (s : Str) (separator : UInt8) : Option ((List Str) × Err) :=
  (syntax_clean s).bind fun x11 =>
  if (!x11) then
  some ([], (some 2))
  else
  (syntax_parts_L0 s separator n [] 0 false 0).bind fun t0 =>
  if t0.2.2.1 then
  some ([], (some 2))
  else
  (chk (0 ≤ t0.2.1 ∧ t0.2.1 ≤ (s.length : Int) ∧ (s.length : Int) ≤ (s.length : Int))).bind fun _ =>
  (trimM (subL s t0.2.1 (s.length : Int)) ([32, 9] : Str)).bind fun x63 =>
  (chk (t0.1.length + [x63].length ≤ lim)).bind fun _ =>
  some ((t0.1 ++ [x63]), none)
set_option maxHeartbeats 8000000 in
theorem syntax_parts_ok {n : Nat} {s : Str} {separator : UInt8} {K : Hp} {r : (List Str) × Err}
    (hm : syntax_parts n s separator = some r)  :
    Fn Tryd.prog 30 [str s, .int .u8 (separator.toNat : Int)] K [] (fun v K' H' => ∃ ar_0 : Option Addr, ∃ cr_0 : Nat, v = .tuple #[.slice ar_0 r.1.length cr_0, errV 48 r.2] ∧ (0 < r.1.length → Has ar_0) ∧ H' = [OwnL eS ar_0 9 1 cr_0 r.1]) := by
  refine Fn.enter Tryd.func30 Tryd.call30 rfl fun F => ?_
  unfold syntax_parts at hm
  obtain ⟨x11, q11, hm⟩ := bnd hm
  conv => whnf
  refine call_fn (syntax_clean_ok (s := s) q11) .nil ?_
  rintro _ K11 _ l11 ⟨rfl, rfl⟩
  conv => whnf
  refine un_not ?_
  conv => whnf
  refine cond_go rfl ?_
  conv => whnf
  refine cond_s (fun w12 => ?_) (fun w12 => ?_)
  · replace hm := ift (not_t (ni_t w12)) hm
    conv => whnf
    refine mk_iface rfl ?_
    obtain rfl := si hm
    conv => whnf
    refine nilE eS 9 1 ?_
    refine EndStep.mk _ l11 ⟨none, 0, rfl, (fun h => by simp at h), rfl⟩ (ConvH.of (.cons r0 (.cons r0 .nil)))
  · replace hm := iff_ (not_f (ni_f w12)) hm
    obtain ⟨s0, hl0, hm⟩ := bnd hm
    conv => whnf
    refine nilC eS 9 1 ?_
    refine code_cut (σ := ((List Str) × Int × Bool × Int) × Option Addr × Nat) [6, 7, 8, 9, 14, 15, 16, 17, 18, 19, 20, 21, 22, 23, 24, 25, 26, 27, 28, 29, 30, 31, 32, 33, 34, 35, 36, 37, 38, 39, 40, 41, 42, 43, 44, 45, 46, 47, 48, 49, 50, 51, 52, 53, 54, 55, 56] (fun (t0, t0_a0, t0_c0) => [(6, .slice t0_a0 t0.1.length t0_c0), (7, .int .i64 t0.2.1), (8, .bool t0.2.2.1), (9, .int .i64 t0.2.2.2)]) (fun (t0, t0_a0, t0_c0) => [OwnL eS t0_a0 9 1 t0_c0 t0.1, F]) (fun zz K1 => match zz with | (t0, t0_a0, t0_c0) => (0 < t0.1.length → Has t0_a0) ∧ t0 = s0) ?_ ?_
    · refine block_go rfl ?_
      conv => whnf
      refine loop_rule (σ := Nat × (List Str) × Int × Bool × Int × Option Addr × Nat) [6, 7, 8, 9, 14, 15, 16, 17, 18, 19, 20, 21, 22, 23, 24, 25, 26, 27, 28, 29, 30, 31, 32, 33, 34, 35, 36, 37, 38, 39, 40, 41, 42, 43, 44, 45, 46, 47, 48, 49, 50, 51, 52, 53, 54, 55, 56] (fun (i0, y0_0, y0_1, y0_2, y0_3, y0_a0, y0_c0) => [(6, .slice y0_a0 y0_0.length y0_c0), (7, .int .i64 y0_1), (8, .bool y0_2), (9, .int .i64 y0_3)]) (fun (i0, y0_0, y0_1, y0_2, y0_3, y0_a0, y0_c0) => [OwnL eS y0_a0 9 1 y0_c0 y0_0, F]) (fun zz K1 => match zz with | (i0, y0_0, y0_1, y0_2, y0_3, y0_a0, y0_c0) => (0 < y0_0.length → Has y0_a0) ∧ syntax_parts_L0 s separator i0 y0_0 y0_1 y0_2 y0_3 = some s0) (fun zz => zz.1) (n, [], 0, false, 0, none, 0) rfl ⟨rfl, rfl, rfl, rfl, trivial⟩ (ConvH.of (.cons r0 (.cons r0 .nil))) ⟨(fun h => by simp at h), hl0⟩ ?_
      clear hl0
      rintro ⟨i0, y0_0, y0_1, y0_2, y0_3, y0_a0, y0_c0⟩ Kb0 lk0 ⟨y0_h0, hl0⟩ j0
      cases i0 with
      | zero => rw [syntax_parts_L0.eq_1] at hl0; cases hl0
      | succ i0 =>
        rw [syntax_parts_L0.eq_2] at hl0
        conv => whnf
        refine RStep.of (len_str rfl ?_)
        conv => whnf
        refine cond_go rfl ?_
        conv => whnf
        refine cond_s (fun w17 => ?_) (fun w17 => ?_)
        · replace hl0 := ift w17 hl0
          conv => whnf
          refine block_go rfl ?_
          conv => whnf
          refine block_go rfl ?_
          obtain ⟨x27, e27, hl0⟩ := bnd hl0
          conv => whnf
          refine cond_s (fun g22_8 => ?_) (fun g22_8 => ?_)
          · replace e27 := ift g22_8 e27
            conv => whnf
            refine cond_t g22_8 ?_
            conv => whnf
            refine cond_t g22_8 ?_
            obtain ⟨x25, l25, k25, e27⟩ := ixb e27
            conv => whnf
            refine idx_str rfl l25 k25 ?_
            conv => whnf
            refine cond_t g22_8 ?_
            conv => whnf
            refine eq_int ?_
            conv => whnf
            refine cond_t g22_8 ?_
            conv => whnf
            refine CStep.ownLe r0 fun hc3 => ?_
            conv => whnf
            refine cond_go rfl ?_
            conv => whnf
            refine cond_s (fun w20 => ?_) (fun w20 => ?_)
            · replace hl0 := ift ((si e27).symm.trans w20) hl0
              obtain ⟨h29, hl0⟩ := chkb hl0
              conv => whnf
              refine int_in h29 ?_
              obtain ⟨h19, hl0⟩ := chkb hl0
              conv => whnf
              refine int_in h19 ?_
              conv => whnf
              refine RoundStep.mk (i0, y0_0, y0_1, y0_2, ((y0_3 + 1) + 1), y0_a0, y0_c0) ⟨rfl, rfl, rfl, rfl, trivial⟩ (by repeat (first | exact trivial | refine And.intro rfl ?_)) (ConvH.of (.cons r0 (.cons r0 .nil))) lk0 (Nat.lt_succ_self _) ⟨y0_h0, hl0⟩
            · replace hl0 := iff_ ((si e27).symm.trans w20) hl0
              obtain ⟨x33, l33, k33, hl0⟩ := ixb hl0
              conv => whnf
              refine idx_str rfl l33 k33 ?_
              conv => whnf
              refine eq_int ?_
              conv => whnf
              refine CStep.ownLe r0 fun hc5 => ?_
              conv => whnf
              refine cond_go rfl ?_
              conv => whnf
              refine cond_s (fun w30 => ?_) (fun w30 => ?_)
              · replace hl0 := ift w30 hl0
                conv => whnf
                refine un_not ?_
                obtain ⟨h19, hl0⟩ := chkb hl0
                conv => whnf
                refine int_in h19 ?_
                conv => whnf
                refine RoundStep.mk (i0, y0_0, y0_1, (!y0_2), (y0_3 + 1), y0_a0, y0_c0) ⟨rfl, rfl, rfl, rfl, trivial⟩ (by repeat (first | exact trivial | refine And.intro rfl ?_)) (ConvH.of (.cons r0 (.cons r0 .nil))) lk0 (Nat.lt_succ_self _) ⟨y0_h0, hl0⟩
              · replace hl0 := iff_ w30 hl0
                conv => whnf
                refine un_not ?_
                obtain ⟨x46, e46, hl0⟩ := bnd hl0
                conv => whnf
                refine cond_s (fun g40_12 => ?_) (fun g40_12 => ?_)
                · replace e46 := ift (not_t (ni_t g40_12)) e46
                  conv => whnf
                  refine cond_t g40_12 ?_
                  conv => whnf
                  refine cond_t g40_12 ?_
                  obtain ⟨x43, l43, k43, e46⟩ := ixb e46
                  conv => whnf
                  refine idx_str rfl l43 k43 ?_
                  conv => whnf
                  refine cond_t g40_12 ?_
                  conv => whnf
                  refine cond_t g40_12 ?_
                  conv => whnf
                  refine eq_int ?_
                  conv => whnf
                  refine cond_t g40_12 ?_
                  conv => whnf
                  refine CStep.ownLe r0 fun hc7 => ?_
                  conv => whnf
                  refine cond_go rfl ?_
                  conv => whnf
                  refine cond_s (fun w37 => ?_) (fun w37 => ?_)
                  · replace hl0 := ift ((si e46).symm.trans w37) hl0
                    obtain ⟨h51, hl0⟩ := chkb hl0
                    conv => whnf
                    refine RStep.ofN (sl_str (lo := (some y0_1)) (hi := (some y0_3)) rfl h51 ?_)
                    obtain ⟨x52, q52, hl0⟩ := bnd hl0
                    conv => whnf
                    refine call_fn (trim_ok q52) .nil ?_
                    rintro _ K52 _ l52 ⟨rfl, rfl⟩
                    conv => whnf
                    refine bsO (len := 1) (enc := eS) (l := [x52]) (cl := [str x52]) elT23 rfl rfl (fun _ _ => rfl) rfl rfl rfl ?_ fun b53 => ?_
                    · conv => whnf
                      refine cond_T ?_
                      conv => whnf
                      first | done | rfl
                    obtain ⟨h54, hl0⟩ := chkb hl0
                    conv => whnf
                    refine apE rfl r1 elT23 (src_own' rfl r0 rfl (fun _ => rfl) (fun _ => rfl)) h54 ?_
                    intro a54 c54 o54
                    obtain ⟨h56, hl0⟩ := chkb hl0
                    conv => whnf
                    refine int_in h56 ?_
                    obtain ⟨h19, hl0⟩ := chkb hl0
                    conv => whnf
                    refine int_in h19 ?_
                    conv => whnf
                    refine RoundStep.mk (i0, (y0_0 ++ [x52]), (y0_3 + 1), y0_2, (y0_3 + 1), a54, c54) ⟨rfl, rfl, rfl, rfl, trivial⟩ (by repeat (first | exact trivial | refine And.intro rfl ?_)) (ConvH.of (.cons r0 (.cons r1 .nil))) (lk0.trans l52) (Nat.lt_succ_self _) ⟨o54, hl0⟩
                  · replace hl0 := iff_ ((si e46).symm.trans w37) hl0
                    obtain ⟨h19, hl0⟩ := chkb hl0
                    conv => whnf
                    refine int_in h19 ?_
                    conv => whnf
                    refine RoundStep.mk (i0, y0_0, y0_1, y0_2, (y0_3 + 1), y0_a0, y0_c0) ⟨rfl, rfl, rfl, rfl, trivial⟩ (by repeat (first | exact trivial | refine And.intro rfl ?_)) (ConvH.of (.cons r0 (.cons r0 .nil))) lk0 (Nat.lt_succ_self _) ⟨y0_h0, hl0⟩
                · replace e46 := iff_ (not_f (ni_f g40_12)) e46
                  conv => whnf
                  refine cond_f g40_12 ?_
                  conv => whnf
                  refine cond_f g40_12 ?_
                  conv => whnf
                  refine cond_f g40_12 ?_
                  conv => whnf
                  refine cond_f g40_12 ?_
                  conv => whnf
                  refine cond_f g40_12 ?_
                  conv => whnf
                  refine CStep.ownLe r0 fun hc9 => ?_
                  conv => whnf
                  refine cond_go rfl ?_
                  conv => whnf
                  refine cond_F ?_
                  replace hl0 := iff_ (si e46).symm hl0
                  obtain ⟨h19, hl0⟩ := chkb hl0
                  conv => whnf
                  refine int_in h19 ?_
                  conv => whnf
                  refine RoundStep.mk (i0, y0_0, y0_1, y0_2, (y0_3 + 1), y0_a0, y0_c0) ⟨rfl, rfl, rfl, rfl, trivial⟩ (by repeat (first | exact trivial | refine And.intro rfl ?_)) (ConvH.of (.cons r0 (.cons r0 .nil))) lk0 (Nat.lt_succ_self _) ⟨y0_h0, hl0⟩
          · replace e27 := iff_ g22_8 e27
            conv => whnf
            refine cond_f g22_8 ?_
            conv => whnf
            refine cond_f g22_8 ?_
            conv => whnf
            refine cond_f g22_8 ?_
            conv => whnf
            refine cond_f g22_8 ?_
            conv => whnf
            refine CStep.ownLe r0 fun hc10 => ?_
            conv => whnf
            refine cond_go rfl ?_
            conv => whnf
            refine cond_F ?_
            replace hl0 := iff_ (si e27).symm hl0
            obtain ⟨x33, l33, k33, hl0⟩ := ixb hl0
            conv => whnf
            refine idx_str rfl l33 k33 ?_
            conv => whnf
            refine eq_int ?_
            conv => whnf
            refine CStep.ownLe r0 fun hc11 => ?_
            conv => whnf
            refine cond_go rfl ?_
            conv => whnf
            refine cond_s (fun w30 => ?_) (fun w30 => ?_)
            · replace hl0 := ift w30 hl0
              conv => whnf
              refine un_not ?_
              obtain ⟨h19, hl0⟩ := chkb hl0
              conv => whnf
              refine int_in h19 ?_
              conv => whnf
              refine RoundStep.mk (i0, y0_0, y0_1, (!y0_2), (y0_3 + 1), y0_a0, y0_c0) ⟨rfl, rfl, rfl, rfl, trivial⟩ (by repeat (first | exact trivial | refine And.intro rfl ?_)) (ConvH.of (.cons r0 (.cons r0 .nil))) lk0 (Nat.lt_succ_self _) ⟨y0_h0, hl0⟩
            · replace hl0 := iff_ w30 hl0
              conv => whnf
              refine un_not ?_
              obtain ⟨x46, e46, hl0⟩ := bnd hl0
              conv => whnf
              refine cond_s (fun g40_12 => ?_) (fun g40_12 => ?_)
              · replace e46 := ift (not_t (ni_t g40_12)) e46
                conv => whnf
                refine cond_t g40_12 ?_
                conv => whnf
                refine cond_t g40_12 ?_
                obtain ⟨x43, l43, k43, e46⟩ := ixb e46
                conv => whnf
                refine idx_str rfl l43 k43 ?_
                conv => whnf
                refine cond_t g40_12 ?_
                conv => whnf
                refine cond_t g40_12 ?_
                conv => whnf
                refine eq_int ?_
                conv => whnf
                refine cond_t g40_12 ?_
                conv => whnf
                refine CStep.ownLe r0 fun hc13 => ?_
                conv => whnf
                refine cond_go rfl ?_
                conv => whnf
                refine cond_s (fun w37 => ?_) (fun w37 => ?_)
                · replace hl0 := ift ((si e46).symm.trans w37) hl0
                  obtain ⟨h51, hl0⟩ := chkb hl0
                  conv => whnf
                  refine RStep.ofN (sl_str (lo := (some y0_1)) (hi := (some y0_3)) rfl h51 ?_)
                  obtain ⟨x52, q52, hl0⟩ := bnd hl0
                  conv => whnf
                  refine call_fn (trim_ok q52) .nil ?_
                  rintro _ K52 _ l52 ⟨rfl, rfl⟩
                  conv => whnf
                  refine bsO (len := 1) (enc := eS) (l := [x52]) (cl := [str x52]) elT23 rfl rfl (fun _ _ => rfl) rfl rfl rfl ?_ fun b53 => ?_
                  · conv => whnf
                    refine cond_T ?_
                    conv => whnf
                    first | done | rfl
                  obtain ⟨h54, hl0⟩ := chkb hl0
                  conv => whnf
                  refine apE rfl r1 elT23 (src_own' rfl r0 rfl (fun _ => rfl) (fun _ => rfl)) h54 ?_
                  intro a54 c54 o54
                  obtain ⟨h56, hl0⟩ := chkb hl0
                  conv => whnf
                  refine int_in h56 ?_
                  obtain ⟨h19, hl0⟩ := chkb hl0
                  conv => whnf
                  refine int_in h19 ?_
                  conv => whnf
                  refine RoundStep.mk (i0, (y0_0 ++ [x52]), (y0_3 + 1), y0_2, (y0_3 + 1), a54, c54) ⟨rfl, rfl, rfl, rfl, trivial⟩ (by repeat (first | exact trivial | refine And.intro rfl ?_)) (ConvH.of (.cons r0 (.cons r1 .nil))) (lk0.trans l52) (Nat.lt_succ_self _) ⟨o54, hl0⟩
                · replace hl0 := iff_ ((si e46).symm.trans w37) hl0
                  obtain ⟨h19, hl0⟩ := chkb hl0
                  conv => whnf
                  refine int_in h19 ?_
                  conv => whnf
                  refine RoundStep.mk (i0, y0_0, y0_1, y0_2, (y0_3 + 1), y0_a0, y0_c0) ⟨rfl, rfl, rfl, rfl, trivial⟩ (by repeat (first | exact trivial | refine And.intro rfl ?_)) (ConvH.of (.cons r0 (.cons r0 .nil))) lk0 (Nat.lt_succ_self _) ⟨y0_h0, hl0⟩
              · replace e46 := iff_ (not_f (ni_f g40_12)) e46
                conv => whnf
                refine cond_f g40_12 ?_
                conv => whnf
                refine cond_f g40_12 ?_
                conv => whnf
                refine cond_f g40_12 ?_
                conv => whnf
                refine cond_f g40_12 ?_
                conv => whnf
                refine cond_f g40_12 ?_
                conv => whnf
                refine CStep.ownLe r0 fun hc15 => ?_
                conv => whnf
                refine cond_go rfl ?_
                conv => whnf
                refine cond_F ?_
                replace hl0 := iff_ (si e46).symm hl0
                obtain ⟨h19, hl0⟩ := chkb hl0
                conv => whnf
                refine int_in h19 ?_
                conv => whnf
                refine RoundStep.mk (i0, y0_0, y0_1, y0_2, (y0_3 + 1), y0_a0, y0_c0) ⟨rfl, rfl, rfl, rfl, trivial⟩ (by repeat (first | exact trivial | refine And.intro rfl ?_)) (ConvH.of (.cons r0 (.cons r0 .nil))) lk0 (Nat.lt_succ_self _) ⟨y0_h0, hl0⟩
        · replace hl0 := iff_ w17 hl0
          conv => whnf
          refine cond_T ?_
          conv => whnf
          refine MeetStep.mk ((y0_0, y0_1, y0_2, y0_3), y0_a0, y0_c0) ⟨rfl, rfl, rfl, rfl, trivial⟩ (by repeat (first | exact trivial | refine And.intro rfl ?_)) (ConvH.of (.cons r0 (.cons r0 .nil))) lk0 ⟨y0_h0, (si hl0)⟩
    · rintro ⟨t0, t0_a0, t0_c0⟩ Kt0 lt0 ⟨t0_h0, rfl⟩ j0
      conv => whnf
      refine cond_go rfl ?_
      conv => whnf
      refine cond_s (fun w57 => ?_) (fun w57 => ?_)
      · replace hm := ift w57 hm
        conv => whnf
        refine mk_iface rfl ?_
        obtain rfl := si hm
        conv => whnf
        refine nilE eS 9 1 ?_
        refine EndStep.mk _ (l11.trans lt0) ⟨none, 0, rfl, (fun h => by simp at h), rfl⟩ (ConvH.of (.cons r0 (.cons r1 .nil)))
      · replace hm := iff_ w57 hm
        obtain ⟨h62, hm⟩ := chkb hm
        conv => whnf
        refine RStep.ofN (sl_str (lo := (some t0.2.1)) (hi := none) rfl h62 ?_)
        obtain ⟨x63, q63, hm⟩ := bnd hm
        conv => whnf
        refine call_fn (trim_ok q63) .nil ?_
        rintro _ K63 _ l63 ⟨rfl, rfl⟩
        conv => whnf
        refine bsO (len := 1) (enc := eS) (l := [x63]) (cl := [str x63]) elT23 rfl rfl (fun _ _ => rfl) rfl rfl rfl ?_ fun b64 => ?_
        · conv => whnf
          refine cond_T ?_
          conv => whnf
          first | done | rfl
        obtain ⟨h65, hm⟩ := chkb hm
        conv => whnf
        refine apE rfl r1 elT23 (src_own' rfl r0 rfl (fun _ => rfl) (fun _ => rfl)) h65 ?_
        intro a65 c65 o65
        obtain rfl := si hm
        conv => whnf
        refine EndStep.mk _ ((l11.trans lt0).trans l63) ⟨a65, c65, rfl, o65, rfl⟩ (ConvH.of (.cons r0 (.cons r1 .nil)))

noncomputable def syntax_List_L0 : List Str → Nat → (List Str) → Option ((List Str))
  | [], _, y0_0 => some y0_0
  | e0 :: xs0, i0, y0_0 =>
    if decide (e0 ≠ ([] : Str)) then
    (chk (y0_0.length + [e0].length ≤ lim)).bind fun _ =>
    syntax_List_L0 xs0 (i0 + 1) (y0_0 ++ [e0])
    else
    syntax_List_L0 xs0 (i0 + 1) y0_0
noncomputable def syntax_List (n : Nat) (s : Str) : Option ((List Str) × Err) :=
  (syntax_parts n s (44 : UInt8)).bind fun x11 =>
  if x11.2.isSome then
  some ([], x11.2)
  else
  (chk (x11.1.length ≤ szMax)).bind fun _ =>
  (syntax_List_L0 x11.1 0 []).bind fun t0 =>
  some (t0, none)
set_option maxHeartbeats 8000000 in
theorem syntax_List_ok {n : Nat} {s : Str} {K : Hp} {r : (List Str) × Err}
    (hm : syntax_List n s = some r)  :
    Fn Tryd.prog 18 [str s] K [] (fun v K' H' => ∃ ar_0 : Option Addr, ∃ cr_0 : Nat, v = .tuple #[.slice ar_0 r.1.length cr_0, errV 48 r.2] ∧ (0 < r.1.length → Has ar_0) ∧ H' = [OwnL eS ar_0 9 1 cr_0 r.1]) := by
  refine Fn.enter Tryd.func18 Tryd.call18 rfl fun F => ?_
  unfold syntax_List at hm
  obtain ⟨x11, q11, hm⟩ := bnd hm
  conv => whnf
  refine call_fn (syntax_parts_ok (s := s) (separator := (44 : UInt8)) q11) .nil ?_
  rintro _ K11 _ l11 ⟨a11_0, c11_0, rfl, h11_0, rfl⟩
  conv => whnf
  refine neq_err rfl ?_
  conv => whnf
  refine cond_go rfl ?_
  conv => whnf
  refine cond_s (fun w15 => ?_) (fun w15 => ?_)
  · replace hm := ift w15 hm
    obtain rfl := si hm
    conv => whnf
    refine nilE eS 9 1 ?_
    refine EndStep.mk _ l11 ⟨none, 0, rfl, (fun h => by simp at h), rfl⟩ (ConvH.of (.cons r0 (.cons r1 .nil)))
  · replace hm := iff_ w15 hm
    conv => whnf
    refine RStep.of (len_slice rfl ?_)
    obtain ⟨hk0, hm⟩ := chkb hm
    obtain ⟨s0, hl0, hm⟩ := bnd hm
    conv => whnf
    refine nilC eS 9 1 ?_
    refine code_cut (σ := ((List Str)) × Option Addr × Nat) [6, 8, 19, 20, 21, 22, 23, 24, 25, 26, 27, 28, 29] (fun (t0, t0_a0, t0_c0) => [(6, .slice t0_a0 t0.length t0_c0)]) (fun (t0, t0_a0, t0_c0) => [OwnL eS t0_a0 9 1 t0_c0 t0, OwnL eS a11_0 9 1 c11_0 x11.1, F]) (fun zz K1 => match zz with | (t0, t0_a0, t0_c0) => (0 < t0.length → Has t0_a0) ∧ t0 = s0) ?_ ?_
    · refine block_go rfl ?_
      conv => whnf
      refine loop_rule (σ := Nat × (List Str) × Option Addr × Nat) [6, 8, 19, 20, 21, 22, 23, 24, 25, 26, 27, 28, 29] (fun (i0, y0_0, y0_a0, y0_c0) => [(19, .int .i64 (i0 : Int)), (6, .slice y0_a0 y0_0.length y0_c0)]) (fun (i0, y0_0, y0_a0, y0_c0) => [OwnL eS y0_a0 9 1 y0_c0 y0_0, OwnL eS a11_0 9 1 c11_0 x11.1, F]) (fun zz K1 => match zz with | (i0, y0_0, y0_a0, y0_c0) => (0 < y0_0.length → Has y0_a0) ∧ syntax_List_L0 (x11.1.drop i0) i0 y0_0 = some s0) (fun zz => x11.1.length - zz.1) (0, [], none, 0) rfl ⟨rfl, rfl, trivial⟩ (ConvH.of (.cons r0 (.cons r0 (.cons r0 .nil)))) ⟨(fun h => by simp at h), hl0⟩ ?_
      clear hl0
      rintro ⟨i0, y0_0, y0_a0, y0_c0⟩ Kb0 lk0 ⟨y0_h0, hl0⟩ j0
      conv => whnf
      refine cond_go rfl ?_
      conv => whnf
      refine cond_s (fun w0 => ?_) (fun w0 => ?_)
      · obtain ⟨e0, hx0, hd0⟩ := ltx w0
        rw [hd0, syntax_List_L0.eq_2] at hl0
        conv => whnf
        refine block_go rfl ?_
        conv => whnf
        refine RStep.ofN (index_addr rfl rfl (hasO h11_0 hx0) (nn _) (lt_ofNE rfl hx0) ?_)
        conv => whnf
        refine RStep.of (ld_own (i := i0) (o := 0) r1 rfl hx0 rfl rfl ?_)
        conv => whnf
        refine neq_str ?_
        conv => whnf
        refine cond_go rfl ?_
        conv => whnf
        refine cond_s (fun w24 => ?_) (fun w24 => ?_)
        · replace hl0 := ift w24 hl0
          conv => whnf
          refine bsO (len := 1) (enc := eS) (l := [e0]) (cl := [str e0]) elT23 rfl rfl (fun _ _ => rfl) rfl rfl rfl ?_ fun b27 => ?_
          · conv => whnf
            refine cond_T ?_
            conv => whnf
            first | done | rfl
          obtain ⟨h28, hl0⟩ := chkb hl0
          conv => whnf
          refine apE rfl r1 elT23 (src_own' rfl r0 rfl (fun _ => rfl) (fun _ => rfl)) h28 ?_
          intro a28 c28 o28
          conv => whnf
          refine int_in (cntz hx0 hk0) ?_
          conv => whnf
          refine RoundStep.mk (i0 + 1, (y0_0 ++ [e0]), a28, c28) ⟨rfl, rfl, trivial⟩ (by repeat (first | exact trivial | refine And.intro rfl ?_)) (ConvH.of (.cons r0 (.cons r1 (.cons r1 .nil)))) lk0 (ltm hx0) ⟨o28, hl0⟩
        · replace hl0 := iff_ w24 hl0
          conv => whnf
          refine int_in (cntz hx0 hk0) ?_
          conv => whnf
          refine RoundStep.mk (i0 + 1, y0_0, y0_a0, y0_c0) ⟨rfl, rfl, trivial⟩ (by repeat (first | exact trivial | refine And.intro rfl ?_)) (ConvH.of (.cons r0 (.cons r0 (.cons r0 .nil)))) lk0 (ltm hx0) ⟨y0_h0, hl0⟩
      · rw [lty w0, syntax_List_L0.eq_1] at hl0
        conv => whnf
        refine cond_T ?_
        conv => whnf
        refine MeetStep.mk (y0_0, y0_a0, y0_c0) ⟨rfl, trivial⟩ (by repeat (first | exact trivial | refine And.intro rfl ?_)) (ConvH.of (.cons r0 (.cons r0 (.cons r0 .nil)))) lk0 ⟨y0_h0, (si hl0)⟩
    · rintro ⟨t0, t0_a0, t0_c0⟩ Kt0 lt0 ⟨t0_h0, rfl⟩ j0
      obtain rfl := si hm
      conv => whnf
      refine EndStep.mk _ (l11.trans lt0) ⟨t0_a0, t0_c0, rfl, t0_h0, rfl⟩ (ConvH.of (.cons r0 (.cons r1 .nil)))

noncomputable def vary_Names_L2 : List Str → Nat → (List Str) → Option (Fl ((List Str) × Bool) ((List Str)))
  | [], _, y2_0 => some (Fl.go y2_0)
  | e2 :: xs2, i2, y2_0 =>
    (field_Name e2).bind fun x34 =>
    if (decide (e2 = ([42] : Str)) || x34.2.isSome) then
    some (Fl.ret ([], true))
    else
    (chk (y2_0.length + [x34.1].length ≤ lim)).bind fun _ =>
    vary_Names_L2 xs2 (i2 + 1) (y2_0 ++ [x34.1])
noncomputable def vary_Names_L0 (n : Nat) : List Str → Nat → (List Str) → Option (Fl ((List Str) × Bool) ((List Str)))
  | [], _, y0_0 => some (Fl.go y0_0)
  | e0 :: xs0, i0, y0_0 =>
    (syntax_List n e0).bind fun x21 =>
    if x21.2.isSome then
    some (Fl.ret ([], true))
    else
    (chk (x21.1.length ≤ szMax)).bind fun _ =>
    (vary_Names_L2 x21.1 0 y0_0).bind fun s2 => s2.el (fun r => some (Fl.ret r)) fun t2 =>
    vary_Names_L0 n xs0 (i0 + 1) t2
noncomputable def vary_Names (n : Nat) (f : (List S_field_Field)) : Option ((List Str) × Bool) :=
  (field_All f ([118, 97, 114, 121] : Str)).bind fun x13 =>
  (chk (x13.length ≤ szMax)).bind fun _ =>
  (vary_Names_L0 n x13 0 []).bind fun s0 => s0.el some fun t0 =>
  (sortSM t0).bind fun x50 =>
  (compactM x50).bind fun x52 =>
  some (x52, false)
set_option maxHeartbeats 8000000 in
theorem vary_Names_ok {n : Nat} {f : (List S_field_Field)} {ap0_0 : Option Addr} {cp0_0 : Nat} {n0 : Nat} {K : Hp} {r : (List Str) × Bool}
    (hm : vary_Names n f = some r) (hp0_0 : RdC S_field_Field.enc K ap0_0 cp0_0 2 f) (en0 : n0 = f.length) :
    Fn Tryd.prog 8 [.slice ap0_0 n0 cp0_0] K [] (fun v K' H' => ∃ ar_0 : Option Addr, ∃ cr_0 : Nat, v = .tuple #[.slice ar_0 r.1.length cr_0, .bool r.2] ∧ (0 < r.1.length → Has ar_0) ∧ H' = [OwnL eS ar_0 9 1 cr_0 r.1]) := by
  subst en0
  refine Fn.enter Tryd.func8 Tryd.call8 rfl fun F => ?_
  unfold vary_Names at hm
  obtain ⟨x13, q13, hm⟩ := bnd hm
  conv => whnf
  refine call_fn (field_All_ok (name := ([118, 97, 114, 121] : Str)) q13 hp0_0 rfl) .nil ?_
  rintro _ K13 _ l13 ⟨a13_0, c13_0, rfl, h13_0, rfl⟩
  conv => whnf
  refine RStep.of (len_slice rfl ?_)
  obtain ⟨hk0, hm⟩ := chkb hm
  obtain ⟨s0, hl0, hm⟩ := bnd hm
  conv => whnf
  refine nilC eS 9 1 ?_
  refine code_cut (σ := ((List Str)) × Option Addr × Nat) [2, 3, 5, 6, 7, 9, 10, 11, 15, 16, 17, 18, 19, 20, 21, 22, 23, 24, 25, 26, 27, 28, 29, 30, 31, 32, 33, 34, 35, 36, 37, 38, 39, 40, 41, 42, 43, 44, 45, 46, 47, 48] (fun (t0, t0_a0, t0_c0) => [(2, .slice t0_a0 t0.length t0_c0)]) (fun (t0, t0_a0, t0_c0) => [OwnL eS t0_a0 9 1 t0_c0 t0, OwnL eS a13_0 9 1 c13_0 x13, F]) (fun zz K1 => match zz with | (t0, t0_a0, t0_c0) => (0 < t0.length → Has t0_a0) ∧ s0 = Fl.go t0) ?_ ?_
  · refine block_go rfl ?_
    conv => whnf
    refine loop_rule (σ := Nat × (List Str) × Option Addr × Nat) [2, 3, 5, 6, 7, 9, 10, 11, 15, 16, 17, 18, 19, 20, 21, 22, 23, 24, 25, 26, 27, 28, 29, 30, 31, 32, 33, 34, 35, 36, 37, 38, 39, 40, 41, 42, 43, 44, 45, 46, 47, 48] (fun (i0, y0_0, y0_a0, y0_c0) => [(15, .int .i64 (i0 : Int)), (2, .slice y0_a0 y0_0.length y0_c0)]) (fun (i0, y0_0, y0_a0, y0_c0) => [OwnL eS y0_a0 9 1 y0_c0 y0_0, OwnL eS a13_0 9 1 c13_0 x13, F]) (fun zz K1 => match zz with | (i0, y0_0, y0_a0, y0_c0) => (0 < y0_0.length → Has y0_a0) ∧ vary_Names_L0 n (x13.drop i0) i0 y0_0 = some s0) (fun zz => x13.length - zz.1) (0, [], none, 0) rfl ⟨rfl, rfl, trivial⟩ (ConvH.of (.cons r0 (.cons r0 (.cons r0 .nil)))) ⟨(fun h => by simp at h), hl0⟩ ?_
    clear hl0
    rintro ⟨i0, y0_0, y0_a0, y0_c0⟩ Kb0 lk0 ⟨y0_h0, hl0⟩ j0
    conv => whnf
    refine cond_go rfl ?_
    conv => whnf
    refine cond_s (fun w0 => ?_) (fun w0 => ?_)
    · obtain ⟨e0, hx0, hd0⟩ := ltx w0
      rw [hd0, vary_Names_L0.eq_2] at hl0
      conv => whnf
      refine block_go rfl ?_
      conv => whnf
      refine RStep.ofN (index_addr rfl rfl (hasO h13_0 hx0) (nn _) (lt_ofNE rfl hx0) ?_)
      conv => whnf
      refine RStep.of (ld_own (i := i0) (o := 0) r1 rfl hx0 rfl rfl ?_)
      obtain ⟨x21, q21, hl0⟩ := bnd hl0
      conv => whnf
      refine call_fn (syntax_List_ok (s := e0) q21) .nil ?_
      rintro _ K21 _ l21 ⟨a21_0, c21_0, rfl, h21_0, rfl⟩
      conv => whnf
      refine neq_err rfl ?_
      conv => whnf
      refine cond_go rfl ?_
      conv => whnf
      refine cond_s (fun w25 => ?_) (fun w25 => ?_)
      · replace hl0 := ift w25 hl0
        obtain rfl := si hl0
        replace hm := elr hm
        obtain rfl := si hm
        conv => whnf
        refine nilE eS 9 1 ?_
        refine EndStep.mk _ ((l13.trans lk0).trans l21) ⟨none, 0, rfl, (fun h => by simp at h), rfl⟩ (ConvH.of (.cons r0 (.cons r3 .nil)))
      · replace hl0 := iff_ w25 hl0
        conv => whnf
        refine RStep.of (len_slice rfl ?_)
        obtain ⟨hk2, hl0⟩ := chkb hl0
        obtain ⟨s2, hl2, hl0⟩ := bnd hl0
        conv => whnf
        refine code_cut (σ := ((List Str)) × Option Addr × Nat) [2, 3, 9, 10, 11, 28, 29, 30, 31, 32, 33, 34, 35, 36, 37, 38, 39, 40, 41, 42, 43, 44, 45, 46, 47] (fun (t2, t2_a0, t2_c0) => [(2, .slice t2_a0 t2.length t2_c0)]) (fun (t2, t2_a0, t2_c0) => [OwnL eS t2_a0 9 1 t2_c0 t2, OwnL eS a21_0 9 1 c21_0 x21.1, OwnL eS a13_0 9 1 c13_0 x13, F]) (fun zz K1 => match zz with | (t2, t2_a0, t2_c0) => (0 < t2.length → Has t2_a0) ∧ s2 = Fl.go t2) ?_ ?_
        · refine block_go rfl ?_
          conv => whnf
          refine loop_rule (σ := Nat × (List Str) × Option Addr × Nat) [2, 3, 9, 10, 11, 28, 29, 30, 31, 32, 33, 34, 35, 36, 37, 38, 39, 40, 41, 42, 43, 44, 45, 46, 47] (fun (i2, y2_0, y2_a0, y2_c0) => [(28, .int .i64 (i2 : Int)), (2, .slice y2_a0 y2_0.length y2_c0)]) (fun (i2, y2_0, y2_a0, y2_c0) => [OwnL eS y2_a0 9 1 y2_c0 y2_0, OwnL eS a21_0 9 1 c21_0 x21.1, OwnL eS a13_0 9 1 c13_0 x13, F]) (fun zz K1 => match zz with | (i2, y2_0, y2_a0, y2_c0) => (0 < y2_0.length → Has y2_a0) ∧ vary_Names_L2 (x21.1.drop i2) i2 y2_0 = some s2) (fun zz => x21.1.length - zz.1) (0, y0_0, y0_a0, y0_c0) rfl ⟨rfl, rfl, trivial⟩ (ConvH.of (.cons r1 (.cons r0 (.cons r0 (.cons r0 .nil))))) ⟨y0_h0, hl2⟩ ?_
          clear hl2
          rintro ⟨i2, y2_0, y2_a0, y2_c0⟩ Kb2 lk2 ⟨y2_h0, hl2⟩ j2
          conv => whnf
          refine cond_go rfl ?_
          conv => whnf
          refine cond_s (fun w2 => ?_) (fun w2 => ?_)
          · obtain ⟨e2, hx2, hd2⟩ := ltx w2
            rw [hd2, vary_Names_L2.eq_2] at hl2
            conv => whnf
            refine block_go rfl ?_
            conv => whnf
            refine RStep.ofN (index_addr rfl rfl (hasO h21_0 hx2) (nn _) (lt_ofNE rfl hx2) ?_)
            conv => whnf
            refine RStep.of (ld_own (i := i2) (o := 0) r1 rfl hx2 rfl rfl ?_)
            obtain ⟨x34, q34, hl2⟩ := bnd hl2
            conv => whnf
            refine call_fn (field_Name_ok (s := e2) q34) .nil ?_
            rintro _ K34 _ l34 ⟨rfl, rfl⟩
            conv => whnf
            refine eq_str ?_
            conv => whnf
            refine cond_s (fun g39_11 => ?_) (fun g39_11 => ?_)
            · conv => whnf
              refine cond_t g39_11 ?_
              conv => whnf
              refine cond_t g39_11 ?_
              conv => whnf
              refine cond_go rfl ?_
              conv => whnf
              refine cond_T ?_
              replace hl2 := ift (or_t g39_11) hl2
              obtain rfl := si hl2
              replace hl0 := elr hl0
              obtain rfl := si hl0
              replace hm := elr hm
              obtain rfl := si hm
              conv => whnf
              refine nilE eS 9 1 ?_
              refine EndStep.mk _ ((((l13.trans lk0).trans l21).trans lk2).trans l34) ⟨none, 0, rfl, (fun h => by simp at h), rfl⟩ (ConvH.of (.cons r0 (.cons r3 .nil)))
            · conv => whnf
              refine cond_f g39_11 ?_
              conv => whnf
              refine neq_err rfl ?_
              conv => whnf
              refine cond_f g39_11 ?_
              conv => whnf
              refine cond_go rfl ?_
              conv => whnf
              refine cond_s (fun w42 => ?_) (fun w42 => ?_)
              · replace hl2 := ift (or_u g39_11 w42) hl2
                obtain rfl := si hl2
                replace hl0 := elr hl0
                obtain rfl := si hl0
                replace hm := elr hm
                obtain rfl := si hm
                conv => whnf
                refine nilE eS 9 1 ?_
                refine EndStep.mk _ ((((l13.trans lk0).trans l21).trans lk2).trans l34) ⟨none, 0, rfl, (fun h => by simp at h), rfl⟩ (ConvH.of (.cons r0 (.cons r3 .nil)))
              · replace hl2 := iff_ (or_f g39_11 w42) hl2
                conv => whnf
                refine bsO (len := 1) (enc := eS) (l := [x34.1]) (cl := [str x34.1]) elT23 rfl rfl (fun _ _ => rfl) rfl rfl rfl ?_ fun b45 => ?_
                · conv => whnf
                  refine cond_T ?_
                  conv => whnf
                  first | done | rfl
                obtain ⟨h46, hl2⟩ := chkb hl2
                conv => whnf
                refine apE rfl r1 elT23 (src_own' rfl r0 rfl (fun _ => rfl) (fun _ => rfl)) h46 ?_
                intro a46 c46 o46
                conv => whnf
                refine int_in (cntz hx2 hk2) ?_
                conv => whnf
                refine RoundStep.mk (i2 + 1, (y2_0 ++ [x34.1]), a46, c46) ⟨rfl, rfl, trivial⟩ (by repeat (first | exact trivial | refine And.intro rfl ?_)) (ConvH.of (.cons r0 (.cons r1 (.cons r1 (.cons r1 .nil))))) (lk2.trans l34) (ltm hx2) ⟨o46, hl2⟩
          · rw [lty w2, vary_Names_L2.eq_1] at hl2
            conv => whnf
            refine cond_T ?_
            conv => whnf
            refine MeetStep.mk (y2_0, y2_a0, y2_c0) ⟨rfl, trivial⟩ (by repeat (first | exact trivial | refine And.intro rfl ?_)) (ConvH.of (.cons r0 (.cons r0 (.cons r0 (.cons r0 .nil))))) lk2 ⟨y2_h0, (si hl2).symm⟩
        · rintro ⟨t2, t2_a0, t2_c0⟩ Kt2 lt2 ⟨t2_h0, rfl⟩ j2
          replace hl0 := elg hl0
          conv => whnf
          refine int_in (cntz hx0 hk0) ?_
          conv => whnf
          refine RoundStep.mk (i0 + 1, t2, t2_a0, t2_c0) ⟨rfl, rfl, trivial⟩ (by repeat (first | exact trivial | refine And.intro rfl ?_)) (ConvH.of (.cons r0 (.cons r1 (.cons r1 .nil)))) ((lk0.trans l21).trans lt2) (ltm hx0) ⟨t2_h0, hl0⟩
    · rw [lty w0, vary_Names_L0.eq_1] at hl0
      conv => whnf
      refine cond_T ?_
      conv => whnf
      refine MeetStep.mk (y0_0, y0_a0, y0_c0) ⟨rfl, trivial⟩ (by repeat (first | exact trivial | refine And.intro rfl ?_)) (ConvH.of (.cons r0 (.cons r0 (.cons r0 .nil)))) lk0 ⟨y0_h0, (si hl0).symm⟩
  · rintro ⟨t0, t0_a0, t0_c0⟩ Kt0 lt0 ⟨t0_h0, rfl⟩ j0
    replace hm := elg hm
    obtain ⟨x50, q50, hm⟩ := bnd hm
    conv => whnf
    refine call_fn (sort_string_ok q50 rfl) (.cons r0 .nil) ?_
    rintro _ K50 _ l50 ⟨rfl, rfl⟩
    obtain ⟨x52, q52, hm⟩ := bnd hm
    conv => whnf
    refine call_fn (compact_string_ok q52 (Eq.trans (rfl) (sortSM_len q50).symm)) (.cons r0 .nil) ?_
    rintro _ K52 _ l52 ⟨rfl, rfl⟩
    obtain rfl := si hm
    conv => whnf
    refine EndStep.mk _ (((l13.trans lt0).trans l50).trans l52) ⟨t0_a0, t0_c0, rfl, (fun h => (fun h => t0_h0 (by rw [sortSM_len q50] at h; exact h)) (compactM_pos q52 h)), rfl⟩ (ConvH.of (.cons r0 (.cons r1 .nil)))

noncomputable def quaysidetop_squeezed_L0 : List UInt8 → Nat → Str → Bool → Option (Str × Bool)
  | [], _, y0_0, y0_1 => some (y0_0, y0_1)
  | e0 :: xs0, i0, y0_0, y0_1 =>
    (if decide ((e0.toNat : Int) = 32) then some true else some (decide ((e0.toNat : Int) = 9))).bind fun x20 =>
    if x20 then
    quaysidetop_squeezed_L0 xs0 (i0 + 1) y0_0 (decide ((y0_0.length : Int) > 0))
    else
    if y0_1 then
    (chk (y0_0.length + ([(32 : UInt8)] : Str).length ≤ lim)).bind fun _ =>
    (chk ((y0_0 ++ ([(32 : UInt8)] : Str)).length + ([e0] : Str).length ≤ lim)).bind fun _ =>
    quaysidetop_squeezed_L0 xs0 (i0 + 1) ((y0_0 ++ ([(32 : UInt8)] : Str)) ++ ([e0] : Str)) false
    else
    (chk (y0_0.length + ([e0] : Str).length ≤ lim)).bind fun _ =>
    quaysidetop_squeezed_L0 xs0 (i0 + 1) (y0_0 ++ ([e0] : Str)) y0_1
noncomputable def quaysidetop_squeezed (s : Str) : Option (Str) :=
  (chk (s.length ≤ szMax)).bind fun _ =>
  (quaysidetop_squeezed_L0 s 0 [] false).bind fun t0 =>
  some t0.1
set_option maxHeartbeats 8000000 in
theorem quaysidetop_squeezed_ok {s : Str} {K : Hp} {r : Str}
    (hm : quaysidetop_squeezed s = some r)  :
    Fn Tryd.prog 25 [str s] K [] (fun v K' H' => v = str r ∧ H' = []) := by
  refine Fn.enter Tryd.func25 Tryd.call25 rfl fun F => ?_
  unfold quaysidetop_squeezed at hm
  conv => whnf
  refine RStep.of (len_str rfl ?_)
  obtain ⟨hk0, hm⟩ := chkb hm
  obtain ⟨s0, hl0, hm⟩ := bnd hm
  conv => whnf
  refine nilC eU 5 1 ?_
  refine code_cut (σ := (Str × Bool) × Option Addr × Nat) [3, 4, 5, 8, 9, 10, 11, 12, 13, 14, 15, 16, 17, 18, 19, 20, 21, 22, 23, 24, 25, 26, 27, 28, 29, 30, 31, 32, 33, 34] (fun (t0, t0_a0, t0_c0) => [(3, .slice t0_a0 t0.1.length t0_c0), (4, .bool t0.2)]) (fun (t0, t0_a0, t0_c0) => [OwnL eU t0_a0 5 1 t0_c0 t0.1, F]) (fun zz K1 => match zz with | (t0, t0_a0, t0_c0) => (0 < t0.1.length → Has t0_a0) ∧ t0 = s0) ?_ ?_
  · refine block_go rfl ?_
    conv => whnf
    refine loop_rule (σ := Nat × Str × Bool × Option Addr × Nat) [3, 4, 5, 8, 9, 10, 11, 12, 13, 14, 15, 16, 17, 18, 19, 20, 21, 22, 23, 24, 25, 26, 27, 28, 29, 30, 31, 32, 33, 34] (fun (i0, y0_0, y0_1, y0_a0, y0_c0) => [(8, .int .i64 (i0 : Int)), (3, .slice y0_a0 y0_0.length y0_c0), (4, .bool y0_1)]) (fun (i0, y0_0, y0_1, y0_a0, y0_c0) => [OwnL eU y0_a0 5 1 y0_c0 y0_0, F]) (fun zz K1 => match zz with | (i0, y0_0, y0_1, y0_a0, y0_c0) => (0 < y0_0.length → Has y0_a0) ∧ quaysidetop_squeezed_L0 (s.drop i0) i0 y0_0 y0_1 = some s0) (fun zz => s.length - zz.1) (0, [], false, none, 0) rfl ⟨rfl, rfl, rfl, trivial⟩ (ConvH.of (.cons r0 (.cons r0 .nil))) ⟨(fun h => by simp at h), hl0⟩ ?_
    clear hl0
    rintro ⟨i0, y0_0, y0_1, y0_a0, y0_c0⟩ Kb0 lk0 ⟨y0_h0, hl0⟩ j0
    conv => whnf
    refine cond_go rfl ?_
    conv => whnf
    refine cond_s (fun w0 => ?_) (fun w0 => ?_)
    · obtain ⟨e0, hx0, hd0⟩ := ltx w0
      rw [hd0, quaysidetop_squeezed_L0.eq_2] at hl0
      conv => whnf
      refine block_go rfl ?_
      conv => whnf
      refine idx_str rfl (nn _) hx0 ?_
      conv => whnf
      refine eq_int ?_
      obtain ⟨x20, e20, hl0⟩ := bnd hl0
      conv => whnf
      refine cond_s (fun g15_6 => ?_) (fun g15_6 => ?_)
      · replace e20 := ift g15_6 e20
        conv => whnf
        refine cond_t g15_6 ?_
        conv => whnf
        refine cond_t g15_6 ?_
        conv => whnf
        refine cond_t g15_6 ?_
        conv => whnf
        refine cond_t g15_6 ?_
        conv => whnf
        refine cond_go rfl ?_
        conv => whnf
        refine cond_T ?_
        replace hl0 := ift (si e20).symm hl0
        conv => whnf
        refine RStep.of (len_slice rfl ?_)
        conv => whnf
        refine cond_T ?_
        conv => whnf
        refine int_in (cntz hx0 hk0) ?_
        conv => whnf
        refine RoundStep.mk (i0 + 1, y0_0, decide ((y0_0.length : Int) > 0), y0_a0, y0_c0) ⟨rfl, rfl, rfl, trivial⟩ (by repeat (first | exact trivial | refine And.intro rfl ?_)) (ConvH.of (.cons r0 (.cons r0 .nil))) lk0 (ltm hx0) ⟨y0_h0, hl0⟩
      · replace e20 := iff_ g15_6 e20
        conv => whnf
        refine cond_f g15_6 ?_
        conv => whnf
        refine cond_f g15_6 ?_
        conv => whnf
        refine idx_str rfl (nn _) hx0 ?_
        conv => whnf
        refine cond_f g15_6 ?_
        conv => whnf
        refine eq_int ?_
        conv => whnf
        refine cond_f g15_6 ?_
        conv => whnf
        refine cond_go rfl ?_
        conv => whnf
        refine cond_s (fun w20 => ?_) (fun w20 => ?_)
        · replace hl0 := ift ((si e20).symm.trans w20) hl0
          conv => whnf
          refine RStep.of (len_slice rfl ?_)
          conv => whnf
          refine cond_T ?_
          conv => whnf
          refine int_in (cntz hx0 hk0) ?_
          conv => whnf
          refine RoundStep.mk (i0 + 1, y0_0, decide ((y0_0.length : Int) > 0), y0_a0, y0_c0) ⟨rfl, rfl, rfl, trivial⟩ (by repeat (first | exact trivial | refine And.intro rfl ?_)) (ConvH.of (.cons r0 (.cons r0 .nil))) lk0 (ltm hx0) ⟨y0_h0, hl0⟩
        · replace hl0 := iff_ ((si e20).symm.trans w20) hl0
          conv => whnf
          refine cond_go rfl ?_
          conv => whnf
          refine cond_s (fun w24 => ?_) (fun w24 => ?_)
          · replace hl0 := ift w24 hl0
            conv => whnf
            refine bsO (len := 1) (enc := eU) (l := ([(32 : UInt8)] : Str)) (cl := [.int .u8 32]) elT62 rfl rfl (fun _ _ => rfl) rfl rfl rfl ?_ fun b26 => ?_
            · conv => whnf
              refine cond_T ?_
              conv => whnf
              first | done | rfl
            obtain ⟨h27, hl0⟩ := chkb hl0
            conv => whnf
            refine apE rfl r1 elT62 (src_own' rfl r0 rfl (fun _ => rfl) (fun _ => rfl)) h27 ?_
            intro a27 c27 o27
            conv => whnf
            refine idx_str rfl (nn _) hx0 ?_
            conv => whnf
            refine bsO (len := 1) (enc := eU) (l := ([e0] : Str)) (cl := [.int .u8 (e0.toNat : Int)]) elT62 rfl rfl (fun _ _ => rfl) rfl rfl rfl ?_ fun b32 => ?_
            · conv => whnf
              refine cond_T ?_
              conv => whnf
              first | done | rfl
            obtain ⟨h33, hl0⟩ := chkb hl0
            conv => whnf
            refine apE rfl r1 elT62 (src_own' rfl r0 rfl (fun _ => rfl) (fun _ => rfl)) h33 ?_
            intro a33 c33 o33
            conv => whnf
            refine int_in (cntz hx0 hk0) ?_
            conv => whnf
            refine RoundStep.mk (i0 + 1, ((y0_0 ++ ([(32 : UInt8)] : Str)) ++ ([e0] : Str)), false, a33, c33) ⟨rfl, rfl, rfl, trivial⟩ (by repeat (first | exact trivial | refine And.intro rfl ?_)) (ConvH.of (.cons r0 (.cons r2 .nil))) lk0 (ltm hx0) ⟨o33, hl0⟩
          · replace hl0 := iff_ w24 hl0
            conv => whnf
            refine idx_str rfl (nn _) hx0 ?_
            conv => whnf
            refine bsO (len := 1) (enc := eU) (l := ([e0] : Str)) (cl := [.int .u8 (e0.toNat : Int)]) elT62 rfl rfl (fun _ _ => rfl) rfl rfl rfl ?_ fun b32 => ?_
            · conv => whnf
              refine cond_T ?_
              conv => whnf
              first | done | rfl
            obtain ⟨h33, hl0⟩ := chkb hl0
            conv => whnf
            refine apE rfl r1 elT62 (src_own' rfl r0 rfl (fun _ => rfl) (fun _ => rfl)) h33 ?_
            intro a33 c33 o33
            conv => whnf
            refine int_in (cntz hx0 hk0) ?_
            conv => whnf
            refine RoundStep.mk (i0 + 1, (y0_0 ++ ([e0] : Str)), y0_1, a33, c33) ⟨rfl, rfl, rfl, trivial⟩ (by repeat (first | exact trivial | refine And.intro rfl ?_)) (ConvH.of (.cons r0 (.cons r1 .nil))) lk0 (ltm hx0) ⟨o33, hl0⟩
    · rw [lty w0, quaysidetop_squeezed_L0.eq_1] at hl0
      conv => whnf
      refine cond_T ?_
      conv => whnf
      refine MeetStep.mk ((y0_0, y0_1), y0_a0, y0_c0) ⟨rfl, rfl, trivial⟩ (by repeat (first | exact trivial | refine And.intro rfl ?_)) (ConvH.of (.cons r0 (.cons r0 .nil))) lk0 ⟨y0_h0, (si hl0)⟩
  · rintro ⟨t0, t0_a0, t0_c0⟩ Kt0 lt0 ⟨t0_h0, rfl⟩ j0
    conv => whnf
    refine RStep.of (cv_ownE rfl r0 rfl rfl rfl ?_)
    obtain rfl := si hm
    conv => whnf
    refine EndStep.mk _ lt0 ⟨rfl, rfl⟩ (ConvH.of (.cons r1 .nil))

noncomputable def quaysidetop_alike_L0 (x15 : (List Str)) : List Str → Nat → Option (Fl (Bool) (Unit))
  | [], _ => some (Fl.go ())
  | e0 :: xs0, i0 =>
    (quaysidetop_squeezed e0).bind fun x30 =>
    (ix x15 (i0 : Int)).bind fun x33 =>
    (quaysidetop_squeezed x33).bind fun x35 =>
    if decide (x30 ≠ x35) then
    some (Fl.ret false)
    else
    quaysidetop_alike_L0 x15 xs0 (i0 + 1)
noncomputable def quaysidetop_alike (f : (List S_field_Field)) (g : (List S_field_Field)) (name : Str) : Option (Bool) :=
  (field_All f name).bind fun x12 =>
  (field_All g name).bind fun x15 =>
  if decide ((x12.length : Int) ≠ (x15.length : Int)) then
  some false
  else
  (chk (x12.length ≤ szMax)).bind fun _ =>
  (quaysidetop_alike_L0 x15 x12 0).bind fun s0 => s0.el some fun t0 =>
  some true
set_option maxHeartbeats 8000000 in
theorem quaysidetop_alike_ok {f : (List S_field_Field)} {g : (List S_field_Field)} {name : Str} {ap0_0 : Option Addr} {cp0_0 : Nat} {n0 : Nat} {ap1_0 : Option Addr} {cp1_0 : Nat} {n1 : Nat} {K : Hp} {r : Bool}
    (hm : quaysidetop_alike f g name = some r) (hp0_0 : RdC S_field_Field.enc K ap0_0 cp0_0 2 f) (en0 : n0 = f.length) (hp1_0 : RdC S_field_Field.enc K ap1_0 cp1_0 2 g) (en1 : n1 = g.length) :
    Fn Tryd.prog 11 [.slice ap0_0 n0 cp0_0, .slice ap1_0 n1 cp1_0, str name] K [] (fun v K' H' => v = .bool r ∧ H' = []) := by
  subst en0
  subst en1
  refine Fn.enter Tryd.func11 Tryd.call11 rfl fun F => ?_
  unfold quaysidetop_alike at hm
  obtain ⟨x12, q12, hm⟩ := bnd hm
  conv => whnf
  refine call_fn (field_All_ok (name := name) q12 hp0_0 rfl) .nil ?_
  rintro _ K12 _ l12 ⟨a12_0, c12_0, rfl, h12_0, rfl⟩
  obtain ⟨x15, q15, hm⟩ := bnd hm
  conv => whnf
  refine call_fn (field_All_ok (name := name) q15 (hp1_0.mono l12) rfl) .nil ?_
  rintro _ K15 _ l15 ⟨a15_0, c15_0, rfl, h15_0, rfl⟩
  conv => whnf
  refine RStep.of (len_slice rfl ?_)
  conv => whnf
  refine RStep.of (len_slice rfl ?_)
  conv => whnf
  refine neq_int ?_
  conv => whnf
  refine cond_go rfl ?_
  conv => whnf
  refine cond_s (fun w20 => ?_) (fun w20 => ?_)
  · replace hm := ift w20 hm
    obtain rfl := si hm
    conv => whnf
    refine EndStep.mk _ (l12.trans l15) ⟨rfl, rfl⟩ (ConvH.of (.cons r2 .nil))
  · replace hm := iff_ w20 hm
    conv => whnf
    refine RStep.of (len_slice rfl ?_)
    obtain ⟨hk0, hm⟩ := chkb hm
    obtain ⟨s0, hl0, hm⟩ := bnd hm
    conv => whnf
    refine fC r0 fun Kd0_0 ld0_0 fd0_0 => ?_
    refine fC r0 fun Kd0_1 ld0_1 fd0_1 => ?_
    refine code_cut (σ := (Unit)) [6, 9, 23, 24, 25, 26, 27, 28, 29, 30, 31, 32, 33, 34, 35, 36, 37] (fun t0 => []) (fun t0 => [F]) (fun zz K1 => match zz with | t0 => s0 = Fl.go t0) ?_ ?_
    · refine block_go rfl ?_
      conv => whnf
      refine loop_rule (σ := Nat) [6, 9, 23, 24, 25, 26, 27, 28, 29, 30, 31, 32, 33, 34, 35, 36, 37] (fun i0 => [(23, .int .i64 (i0 : Int))]) (fun i0 => [F]) (fun zz K1 => match zz with | i0 => quaysidetop_alike_L0 x15 (x12.drop i0) i0 = some s0) (fun zz => x12.length - zz) (0) rfl ⟨rfl, trivial⟩ (ConvH.of (.cons r0 .nil)) hl0 ?_
      clear hl0
      rintro i0 Kb0 lk0 hl0 j0
      conv at hl0 => whnf
      conv => whnf
      refine cond_go rfl ?_
      conv => whnf
      refine cond_s (fun w0 => ?_) (fun w0 => ?_)
      · obtain ⟨e0, hx0, hd0⟩ := ltx w0
        rw [hd0, quaysidetop_alike_L0.eq_2] at hl0
        conv => whnf
        refine block_go rfl ?_
        conv => whnf
        refine draw_go ⟨⟨[], false⟩, _, []⟩ (by kernel_rfl) ⟨Hp.Le.refl _, (ConvH.of .nil)⟩ ?_
        conv => whnf
        refine index_addr rfl rfl (hasK (fd0_1.mono lk0).rd hx0) (nn _) (lt_ofN hx0) ?_
        conv => whnf
        refine load_rd_l i0 0 _ _ (fd0_1.mono lk0).rd rfl (mp hx0) rfl rfl ?_
        obtain ⟨x30, q30, hl0⟩ := bnd hl0
        conv => whnf
        refine call_fn (quaysidetop_squeezed_ok (s := e0) q30) .nil ?_
        rintro _ K30 _ l30 ⟨rfl, rfl⟩
        conv => whnf
        refine ⟨⟨l30, (ConvH.of .nil)⟩, ?_⟩
        obtain ⟨x33, l33, k33, hl0⟩ := ixb hl0
        conv => whnf
        refine index_addr rfl rfl (hasK (fd0_0.mono ((ld0_1.trans lk0).trans l30)).rd k33) l33 (lt_ofE rfl l33 k33) ?_
        conv => whnf
        refine load_rd_l (((i0 : Int)).toNat) 0 _ _ (fd0_0.mono (ld0_1.trans lk0)).rd rfl (mp k33) rfl rfl ?_
        obtain ⟨x35, q35, hl0⟩ := bnd hl0
        conv => whnf
        refine call_fn (quaysidetop_squeezed_ok (s := x33) q35) .nil ?_
        rintro _ K35 _ l35 ⟨rfl, rfl⟩
        conv => whnf
        refine ⟨⟨(l30.trans l35), (ConvH.of .nil)⟩, ?_⟩
        conv => whnf
        refine neq_str ?_
        conv => whnf
        refine cond_go rfl ?_
        conv => whnf
        refine cond_s (fun w36 => ?_) (fun w36 => ?_)
        · replace hl0 := ift w36 hl0
          obtain rfl := si hl0
          replace hm := elr hm
          obtain rfl := si hm
          conv => whnf
          refine EndStep.mk _ ((((((l12.trans l15).trans ld0_0).trans ld0_1).trans lk0).trans l30).trans l35) ⟨rfl, rfl⟩ (ConvH.of (.cons r0 .nil))
        · replace hl0 := iff_ w36 hl0
          conv => whnf
          refine int_in (cntz hx0 hk0) ?_
          conv => whnf
          refine RoundStep.mk (i0 + 1) ⟨rfl, trivial⟩ (by repeat (first | exact trivial | refine And.intro rfl ?_)) (ConvH.of (.cons r0 .nil)) ((lk0.trans l30).trans l35) (ltm hx0) hl0
      · rw [lty w0, quaysidetop_alike_L0.eq_1] at hl0
        conv => whnf
        refine cond_T ?_
        conv => whnf
        refine MeetStep.mk (()) trivial (by repeat (first | exact trivial | refine And.intro rfl ?_)) (ConvH.of (.cons r0 .nil)) lk0 (si hl0).symm
    · rintro t0 Kt0 lt0 rfl j0
      replace hm := elg hm
      obtain rfl := si hm
      conv => whnf
      refine EndStep.mk _ ((((l12.trans l15).trans ld0_0).trans ld0_1).trans lt0) ⟨rfl, rfl⟩ (ConvH.of (.cons r0 .nil))

noncomputable def base_Texts_L0 (b : (List Str)) : List Str → Nat → Option (Fl (Bool) (Unit))
  | [], _ => some (Fl.go ())
  | e0 :: xs0, i0 =>
    (ix b (i0 : Int)).bind fun x22 =>
    if decide (e0 ≠ x22) then
    some (Fl.ret false)
    else
    base_Texts_L0 b xs0 (i0 + 1)
noncomputable def base_Texts (a : (List Str)) (b : (List Str)) : Option (Bool) :=
  if decide ((a.length : Int) ≠ (b.length : Int)) then
  some false
  else
  (chk (a.length ≤ szMax)).bind fun _ =>
  (base_Texts_L0 b a 0).bind fun s0 => s0.el some fun t0 =>
  some true
set_option maxHeartbeats 8000000 in
theorem base_Texts_ok {a : (List Str)} {b : (List Str)} {ap0_0 : Option Addr} {cp0_0 : Nat} {n0 : Nat} {ap1_0 : Option Addr} {cp1_0 : Nat} {n1 : Nat} {K : Hp} {r : Bool}
    (hm : base_Texts a b = some r) (hp0_0 : RdC eS K ap0_0 cp0_0 1 a) (en0 : n0 = a.length) (hp1_0 : RdC eS K ap1_0 cp1_0 1 b) (en1 : n1 = b.length) :
    Fn Tryd.prog 12 [.slice ap0_0 n0 cp0_0, .slice ap1_0 n1 cp1_0] K [] (fun v K' H' => v = .bool r ∧ H' = []) := by
  subst en0
  subst en1
  refine Fn.enter Tryd.func12 Tryd.call12 rfl fun F => ?_
  unfold base_Texts at hm
  conv => whnf
  refine RStep.of (len_slice rfl ?_)
  conv => whnf
  refine RStep.of (len_slice rfl ?_)
  conv => whnf
  refine neq_int ?_
  conv => whnf
  refine cond_go rfl ?_
  conv => whnf
  refine cond_s (fun w10 => ?_) (fun w10 => ?_)
  · replace hm := ift w10 hm
    obtain rfl := si hm
    conv => whnf
    refine EndStep.mk _ (Hp.Le.refl _) ⟨rfl, rfl⟩ (ConvH.of (.cons r0 .nil))
  · replace hm := iff_ w10 hm
    conv => whnf
    refine RStep.of (len_slice rfl ?_)
    obtain ⟨hk0, hm⟩ := chkb hm
    obtain ⟨s0, hl0, hm⟩ := bnd hm
    conv => whnf
    refine code_cut (σ := (Unit)) [4, 5, 13, 14, 15, 16, 17, 18, 19, 20, 21, 22, 23, 24, 25] (fun t0 => []) (fun t0 => [F]) (fun zz K1 => match zz with | t0 => s0 = Fl.go t0) ?_ ?_
    · refine block_go rfl ?_
      conv => whnf
      refine loop_rule (σ := Nat) [4, 5, 13, 14, 15, 16, 17, 18, 19, 20, 21, 22, 23, 24, 25] (fun i0 => [(13, .int .i64 (i0 : Int))]) (fun i0 => [F]) (fun zz K1 => match zz with | i0 => base_Texts_L0 b (a.drop i0) i0 = some s0) (fun zz => a.length - zz) (0) rfl ⟨rfl, trivial⟩ (ConvH.of (.cons r0 .nil)) hl0 ?_
      clear hl0
      rintro i0 Kb0 lk0 hl0 j0
      conv at hl0 => whnf
      conv => whnf
      refine cond_go rfl ?_
      conv => whnf
      refine cond_s (fun w0 => ?_) (fun w0 => ?_)
      · obtain ⟨e0, hx0, hd0⟩ := ltx w0
        rw [hd0, base_Texts_L0.eq_2] at hl0
        conv => whnf
        refine block_go rfl ?_
        conv => whnf
        refine draw_go ⟨⟨[], false⟩, _, []⟩ (by kernel_rfl) ⟨Hp.Le.refl _, (ConvH.of .nil)⟩ ?_
        conv => whnf
        refine index_addr rfl rfl (hasK (hp0_0.mono lk0).rd hx0) (nn _) (lt_ofN hx0) ?_
        conv => whnf
        refine load_rd_l i0 0 _ _ (hp0_0.mono lk0).rd rfl (mp hx0) rfl rfl ?_
        obtain ⟨x22, l22, k22, hl0⟩ := ixb hl0
        conv => whnf
        refine index_addr rfl rfl (hasK (hp1_0.mono lk0).rd k22) l22 (lt_ofE rfl l22 k22) ?_
        conv => whnf
        refine load_rd_l (((i0 : Int)).toNat) 0 _ _ (hp1_0.mono lk0).rd rfl (mp k22) rfl rfl ?_
        conv => whnf
        refine neq_str ?_
        conv => whnf
        refine cond_go rfl ?_
        conv => whnf
        refine cond_s (fun w24 => ?_) (fun w24 => ?_)
        · replace hl0 := ift w24 hl0
          obtain rfl := si hl0
          replace hm := elr hm
          obtain rfl := si hm
          conv => whnf
          refine EndStep.mk _ lk0 ⟨rfl, rfl⟩ (ConvH.of (.cons r0 .nil))
        · replace hl0 := iff_ w24 hl0
          conv => whnf
          refine int_in (cntz hx0 hk0) ?_
          conv => whnf
          refine RoundStep.mk (i0 + 1) ⟨rfl, trivial⟩ (by repeat (first | exact trivial | refine And.intro rfl ?_)) (ConvH.of (.cons r0 .nil)) lk0 (ltm hx0) hl0
      · rw [lty w0, base_Texts_L0.eq_1] at hl0
        conv => whnf
        refine cond_T ?_
        conv => whnf
        refine MeetStep.mk (()) trivial (by repeat (first | exact trivial | refine And.intro rfl ?_)) (ConvH.of (.cons r0 .nil)) lk0 (si hl0).symm
    · rintro t0 Kt0 lt0 rfl j0
      replace hm := elg hm
      obtain rfl := si hm
      conv => whnf
      refine EndStep.mk _ lt0 ⟨rfl, rfl⟩ (ConvH.of (.cons r0 .nil))
