/- Functions of the program: mirrors, and that a call returns what the mirror says. Printed by gen.py. -/
import Derived.Test.YtdnelkmckpapgaaDoorG3
set_option linter.unusedVariables false
set_option linter.unusedSimpArgs false
open Go Go.SL Go.Proofs
set_option maxRecDepth 1000000
noncomputable def ref42_Split_L3 (y0_3 : Int) (text : Str) : Nat → Int → Option (Int)
 | 0, _ => none
 | xs3 + 1, y3_0 =>
  (chk (InI (y0_3 + y3_0))).bind fun _ =>
  (if decide ((y0_3 + y3_0) < (text.length : Int)) then (chk (InI (y0_3 + y3_0))).bind fun _ =>
  (ix text (y0_3 + y3_0)).bind fun x42 =>
  some (decide ((x42.toNat : Int) ≠ 10)) else some false).bind fun x44 =>
  if x44 then
  (chk (InI (y3_0 + 1))).bind fun _ =>
  ref42_Split_L3 y0_3 text xs3 (y3_0 + 1)
  else
  some y3_0
noncomputable def ref42_Split_L0 (text : Str) (n : Nat) : Nat → (List S_ref42_Token) → Int → Int → Int → Option (Fl ((List S_ref42_Token) × Int) ((List S_ref42_Token) × Int × Int × Int))
 | 0, _, _, _, _ => none
 | xs0 + 1, y0_0, y0_1, y0_2, y0_3 =>
  if decide (y0_3 < (text.length : Int)) then
  (ix text y0_3).bind fun x22 =>
  if decide ((x22.toNat : Int) = 10) then
  (chk (InI (y0_1 + 1))).bind fun _ =>
  (chk (InI (y0_3 + 1))).bind fun _ =>
  (chk (InI (0 + 1))).bind fun _ =>
  ref42_Split_L0 text n xs0 y0_0 (y0_1 + 1) (0 + 1) (y0_3 + 1)
  else
  if decide ((x22.toNat : Int) = 35) then
  (ref42_Split_L3 y0_3 text n 1).bind fun t3 =>
  (chk (InI (y0_3 + t3))).bind fun _ =>
  (chk (InI (y0_2 + t3))).bind fun _ =>
  ref42_Split_L0 text n xs0 y0_0 y0_1 (y0_2 + t3) (y0_3 + t3)
  else
  if ((decide ((x22.toNat : Int) ≠ 32) && decide ((x22.toNat : Int) ≠ 9)) && decide ((x22.toNat : Int) ≠ 13)) then
  (chk (0 ≤ y0_3 ∧ y0_3 ≤ (text.length : Int) ∧ (text.length : Int) ≤ (text.length : Int))).bind fun _ =>
  (ref42_take n (subL text y0_3 (text.length : Int))).bind fun x62 =>
  if decide (x62.2.2 = 0) then
  some (Fl.ret ([], 2))
  else
  (chk (y0_0.length + [(⟨x62.1, x62.2.1, y0_1, y0_2⟩ : S_ref42_Token)].length ≤ lim)).bind fun _ =>
  (chk (InI (y0_3 + x62.2.2))).bind fun _ =>
  (chk (InI (y0_2 + x62.2.2))).bind fun _ =>
  ref42_Split_L0 text n xs0 (y0_0 ++ [(⟨x62.1, x62.2.1, y0_1, y0_2⟩ : S_ref42_Token)]) y0_1 (y0_2 + x62.2.2) (y0_3 + x62.2.2)
  else
  (chk (InI (y0_3 + 1))).bind fun _ =>
  (chk (InI (y0_2 + 1))).bind fun _ =>
  ref42_Split_L0 text n xs0 y0_0 y0_1 (y0_2 + 1) (y0_3 + 1)
  else
  some (Fl.go (y0_0, y0_1, y0_2, y0_3))
noncomputable def ref42_Split (n : Nat) (text : Str) : Option ((List S_ref42_Token) × Int) :=
 if decide ((text.length : Int) > 4096) then
 some ([], 5)
 else
 (ref42_Split_L0 text n n [] 1 1 0).bind fun s0 => s0.el some fun t0 =>
 (chk (t0.1.length + ([(⟨5, ([] : Str), t0.2.1, t0.2.2.1⟩ : S_ref42_Token)]).length ≤ lim)).bind fun _ =>
 some ((t0.1 ++ [(⟨5, ([] : Str), t0.2.1, t0.2.2.1⟩ : S_ref42_Token)]), 0)
set_option maxHeartbeats 8000000 in
theorem ref42_Split_ok {n : Nat} {text : Str} {K : Hp} {r : (List S_ref42_Token) × Int}
  (hm : ref42_Split n text = some r)  :
  Fn Tryd.prog 83 [str text] K [] (fun v K' H' => ∃ ar_0 : Option Addr, ∃ cr_0 : Nat, v = .tuple #[.slice ar_0 r.1.length cr_0, .int .i64 r.2] ∧ (0 < r.1.length → Has ar_0) ∧ H' = [OwnL S_ref42_Token.enc ar_0 118 4 cr_0 r.1]) := by
 refine Fn.enter Tryd.func83 Tryd.call83 rfl fun F => ?_
 unfold ref42_Split at hm
 conv => whnf
 refine RStep.of (len_str rfl ?_)
 conv => whnf
 refine cond_go rfl ?_
 conv => whnf
 refine cond_s (fun w15 => ?_) (fun w15 => ?_)
 ·replace hm := ift w15 hm
  obtain rfl := si hm
  conv => whnf
  refine nilE S_ref42_Token.enc 118 4 ?_
  refine EndStep.mk _ (Hp.Le.refl _) ⟨none, 0, rfl, (fun h => by simp at h), rfl⟩ (ConvH.of (.cons r0 (.cons r0 .nil)))
 ·replace hm := iff_ w15 hm
  obtain ⟨s0, hl0, hm⟩ := bnd hm
  conv => whnf
  refine nilC S_ref42_Token.enc 118 4 ?_
  refine code_cut (σ := ((List S_ref42_Token) × Int × Int × Int) × Option Addr × Nat) [2, 3, 4, 5, 6, 7, 8, 9, 10, 11, 12, 16, 17, 18, 19, 20, 21, 22, 23, 24, 25, 26, 27, 28, 29, 30, 31, 32, 33, 34, 35, 36, 37, 38, 39, 40, 41, 42, 43, 44, 45, 46, 47, 48, 49, 50, 51, 52, 53, 54, 55, 56, 57, 58, 59, 60, 61, 62, 63, 64, 65, 66, 67, 68, 69, 70, 71, 72, 73, 74, 75, 76, 77, 78, 79, 80, 81, 82] (fun (t0, t0_a0, t0_c0) => [(4, .slice t0_a0 t0.1.length t0_c0), (5, .int .i64 t0.2.1), (6, .int .i64 t0.2.2.1), (7, .int .i64 t0.2.2.2)]) (fun (t0, t0_a0, t0_c0) => [OwnL S_ref42_Token.enc t0_a0 118 4 t0_c0 t0.1, F]) (fun zz K1 => match zz with | (t0, t0_a0, t0_c0) => (0 < t0.1.length → Has t0_a0) ∧ s0 = Fl.go t0) ?_ ?_
  ·refine block_go rfl ?_
   conv => whnf
   refine loop_rule (σ := Nat × (List S_ref42_Token) × Int × Int × Int × Option Addr × Nat) [2, 3, 4, 5, 6, 7, 8, 9, 10, 11, 12, 16, 17, 18, 19, 20, 21, 22, 23, 24, 25, 26, 27, 28, 29, 30, 31, 32, 33, 34, 35, 36, 37, 38, 39, 40, 41, 42, 43, 44, 45, 46, 47, 48, 49, 50, 51, 52, 53, 54, 55, 56, 57, 58, 59, 60, 61, 62, 63, 64, 65, 66, 67, 68, 69, 70, 71, 72, 73, 74, 75, 76, 77, 78, 79, 80, 81, 82] (fun (i0, y0_0, y0_1, y0_2, y0_3, y0_a0, y0_c0) => [(4, .slice y0_a0 y0_0.length y0_c0), (5, .int .i64 y0_1), (6, .int .i64 y0_2), (7, .int .i64 y0_3)]) (fun (i0, y0_0, y0_1, y0_2, y0_3, y0_a0, y0_c0) => [OwnL S_ref42_Token.enc y0_a0 118 4 y0_c0 y0_0, F]) (fun zz K1 => match zz with | (i0, y0_0, y0_1, y0_2, y0_3, y0_a0, y0_c0) => (0 < y0_0.length → Has y0_a0) ∧ ref42_Split_L0 text n i0 y0_0 y0_1 y0_2 y0_3 = some s0) (fun zz => zz.1) (n, [], 1, 1, 0, none, 0) rfl ⟨rfl, rfl, rfl, rfl, trivial⟩ (ConvH.of (.cons r0 (.cons r0 .nil))) ⟨(fun h => by simp at h), hl0⟩ ?_
   clear hl0
   rintro ⟨i0, y0_0, y0_1, y0_2, y0_3, y0_a0, y0_c0⟩ Kb0 lk0 ⟨y0_h0, hl0⟩ j0
   cases i0 with
   | zero => rw [ref42_Split_L0.eq_1] at hl0; cases hl0
   | succ i0 =>
    rw [ref42_Split_L0.eq_2] at hl0
    conv => whnf
    refine RStep.of (len_str rfl ?_)
    conv => whnf
    refine cond_go rfl ?_
    conv => whnf
    refine cond_s (fun w19 => ?_) (fun w19 => ?_)
    ·replace hl0 := ift w19 hl0
     conv => whnf
     refine block_go rfl ?_
     obtain ⟨x22, l22, k22, hl0⟩ := ixb hl0
     conv => whnf
     refine idx_str rfl l22 k22 ?_
     conv => whnf
     refine block_go rfl ?_
     conv => whnf
     refine eq_int ?_
     conv => whnf
     refine CStep.ownLe r0 fun hc3 => ?_
     conv => whnf
     refine cond_go rfl ?_
     conv => whnf
     refine cond_s (fun w23 => ?_) (fun w23 => ?_)
     ·replace hl0 := ift w23 hl0
      obtain ⟨h27, hl0⟩ := chkb hl0
      conv => whnf
      refine int_in h27 ?_
      obtain ⟨h79, hl0⟩ := chkb hl0
      conv => whnf
      refine int_in h79 ?_
      obtain ⟨h82, hl0⟩ := chkb hl0
      conv => whnf
      refine int_in h82 ?_
      conv => whnf
      refine RoundStep.mk (i0, y0_0, (y0_1 + 1), (0 + 1), (y0_3 + 1), y0_a0, y0_c0) ⟨rfl, rfl, rfl, rfl, trivial⟩ (by repeat (first | exact trivial | refine And.intro rfl ?_)) (ConvH.of (.cons r0 (.cons r0 .nil))) lk0 (Nat.lt_succ_self _) ⟨y0_h0, hl0⟩
     ·replace hl0 := iff_ w23 hl0
      conv => whnf
      refine eq_int ?_
      conv => whnf
      refine CStep.ownLe r0 fun hc5 => ?_
      conv => whnf
      refine cond_go rfl ?_
      conv => whnf
      refine cond_s (fun w28 => ?_) (fun w28 => ?_)
      ·replace hl0 := ift w28 hl0
       obtain ⟨s3, hl3, hl0⟩ := bnd hl0
       conv => whnf
       refine code_cut (σ := (Int)) [9, 31, 32, 33, 34, 35, 36, 37, 38, 39, 40, 41, 42, 43, 44, 45, 46] (fun t3 => [(9, .int .i64 t3)]) (fun t3 => [OwnL S_ref42_Token.enc y0_a0 118 4 y0_c0 y0_0, F]) (fun zz K1 => match zz with | t3 => t3 = s3) ?_ ?_
       ·refine block_go rfl ?_
        conv => whnf
        refine loop_rule (σ := Nat × Int) [9, 31, 32, 33, 34, 35, 36, 37, 38, 39, 40, 41, 42, 43, 44, 45, 46] (fun (i3, y3_0) => [(9, .int .i64 y3_0)]) (fun (i3, y3_0) => [OwnL S_ref42_Token.enc y0_a0 118 4 y0_c0 y0_0, F]) (fun zz K1 => match zz with | (i3, y3_0) => ref42_Split_L3 y0_3 text i3 y3_0 = some s3) (fun zz => zz.1) (n, 1) rfl ⟨rfl, trivial⟩ (ConvH.of (.cons r0 (.cons r0 .nil))) hl3 ?_
        clear hl3
        rintro ⟨i3, y3_0⟩ Kb3 lk3 hl3 j3
        conv at hl3 => whnf
        cases i3 with
        | zero => rw [ref42_Split_L3.eq_1] at hl3; cases hl3
        | succ i3 =>
         rw [ref42_Split_L3.eq_2] at hl3
         obtain ⟨h33, hl3⟩ := chkb hl3
         conv => whnf
         refine int_in h33 ?_
         conv => whnf
         refine RStep.of (len_str rfl ?_)
         obtain ⟨x44, e44, hl3⟩ := bnd hl3
         conv => whnf
         refine cond_s (fun g37_12 => ?_) (fun g37_12 => ?_)
         ·replace e44 := ift g37_12 e44
          conv => whnf
          refine cond_t g37_12 ?_
          conv => whnf
          refine cond_t g37_12 ?_
          conv => whnf
          refine cond_t g37_12 ?_
          obtain ⟨h41, e44⟩ := chkb e44
          conv => whnf
          refine int_in h41 ?_
          conv => whnf
          refine cond_t g37_12 ?_
          obtain ⟨x42, l42, k42, e44⟩ := ixb e44
          conv => whnf
          refine idx_str rfl l42 k42 ?_
          conv => whnf
          refine cond_t g37_12 ?_
          conv => whnf
          refine neq_int ?_
          conv => whnf
          refine cond_t g37_12 ?_
          conv => whnf
          refine cond_go rfl ?_
          conv => whnf
          refine cond_s (fun w44 => ?_) (fun w44 => ?_)
          ·replace hl3 := ift ((si e44).symm.trans w44) hl3
           conv => whnf
           refine block_go rfl ?_
           obtain ⟨h46, hl3⟩ := chkb hl3
           conv => whnf
           refine int_in h46 ?_
           conv => whnf
           refine RoundStep.mk (i3, (y3_0 + 1)) ⟨rfl, trivial⟩ (by repeat (first | exact trivial | refine And.intro rfl ?_)) (ConvH.of (.cons r0 (.cons r0 .nil))) lk3 (Nat.lt_succ_self _) hl3
          ·replace hl3 := iff_ ((si e44).symm.trans w44) hl3
           conv => whnf
           refine cond_T ?_
           conv => whnf
           refine MeetStep.mk (y3_0) ⟨rfl, trivial⟩ (by repeat (first | exact trivial | refine And.intro rfl ?_)) (ConvH.of (.cons r0 (.cons r0 .nil))) lk3 (si hl3)
         ·replace e44 := iff_ g37_12 e44
          conv => whnf
          refine cond_f g37_12 ?_
          conv => whnf
          refine cond_f g37_12 ?_
          conv => whnf
          refine cond_f g37_12 ?_
          conv => whnf
          refine cond_f g37_12 ?_
          conv => whnf
          refine cond_f g37_12 ?_
          conv => whnf
          refine cond_f g37_12 ?_
          conv => whnf
          refine cond_go rfl ?_
          conv => whnf
          refine cond_F ?_
          replace hl3 := iff_ (si e44).symm hl3
          conv => whnf
          refine cond_T ?_
          conv => whnf
          refine MeetStep.mk (y3_0) ⟨rfl, trivial⟩ (by repeat (first | exact trivial | refine And.intro rfl ?_)) (ConvH.of (.cons r0 (.cons r0 .nil))) lk3 (si hl3)
       ·rintro t3 Kt3 lt3 rfl j3
        obtain ⟨h79, hl0⟩ := chkb hl0
        conv => whnf
        refine int_in h79 ?_
        obtain ⟨h82, hl0⟩ := chkb hl0
        conv => whnf
        refine int_in h82 ?_
        conv => whnf
        refine RoundStep.mk (i0, y0_0, y0_1, (y0_2 + t3), (y0_3 + t3), y0_a0, y0_c0) ⟨rfl, rfl, rfl, rfl, trivial⟩ (by repeat (first | exact trivial | refine And.intro rfl ?_)) (ConvH.of (.cons r0 (.cons r0 .nil))) (lk0.trans lt3) (Nat.lt_succ_self _) ⟨y0_h0, hl0⟩
      ·replace hl0 := iff_ w28 hl0
       conv => whnf
       refine neq_int ?_
       conv => whnf
       refine cond_s (fun g50_14 => ?_) (fun g50_14 => ?_)
       ·conv => whnf
        refine cond_t g50_14 ?_
        conv => whnf
        refine neq_int ?_
        conv => whnf
        refine cond_t g50_14 ?_
        conv => whnf
        refine cond_s (fun g54_14 => ?_) (fun g54_14 => ?_)
        ·conv => whnf
         refine cond_t g54_14 ?_
         conv => whnf
         refine neq_int ?_
         conv => whnf
         refine cond_t g54_14 ?_
         conv => whnf
         refine CStep.ownLe r0 fun hc8 => ?_
         conv => whnf
         refine cond_go rfl ?_
         conv => whnf
         refine cond_s (fun w47 => ?_) (fun w47 => ?_)
         ·replace hl0 := ift (and_t (and_t g50_14 g54_14) w47) hl0
          obtain ⟨h61, hl0⟩ := chkb hl0
          conv => whnf
          refine RStep.ofN (sl_str (lo := (some y0_3)) (hi := none) rfl h61 ?_)
          obtain ⟨x62, q62, hl0⟩ := bnd hl0
          conv => whnf
          refine call_fn (ref42_take_ok (s := (subL text y0_3 (text.length : Int))) q62) .nil ?_
          rintro _ K62 _ l62 ⟨rfl, rfl⟩
          conv => whnf
          refine eq_int ?_
          conv => whnf
          refine cond_go rfl ?_
          conv => whnf
          refine cond_s (fun w67 => ?_) (fun w67 => ?_)
          ·replace hl0 := ift w67 hl0
           obtain rfl := si hl0
           replace hm := elr hm
           obtain rfl := si hm
           conv => whnf
           refine nilE S_ref42_Token.enc 118 4 ?_
           refine EndStep.mk _ (lk0.trans l62) ⟨none, 0, rfl, (fun h => by simp at h), rfl⟩ (ConvH.of (.cons r0 (.cons r1 .nil)))
          ·replace hl0 := iff_ w67 hl0
           conv => whnf
           refine build_struct rfl rfl ?_
           conv => whnf
           refine cond_T ?_
           conv => whnf
           refine cond_T ?_
           conv => whnf
           refine cond_T ?_
           conv => whnf
           refine cond_T ?_
           conv => whnf
           refine bsO (len := 1) (enc := S_ref42_Token.enc) (l := [(⟨x62.1, x62.2.1, y0_1, y0_2⟩ : S_ref42_Token)]) (cl := [.int .i64 x62.1, str x62.2.1, .int .i64 y0_1, .int .i64 y0_2]) elT115 rfl rfl (fun _ _ => rfl) rfl rfl rfl ?_ fun b74 => ?_
           ·conv => whnf
            refine cond_T ?_
            conv => whnf
            first | done | rfl
           obtain ⟨h75, hl0⟩ := chkb hl0
           conv => whnf
           refine apE rfl r1 elT115 (src_own' rfl r0 rfl (fun _ => rfl) (fun _ => rfl)) h75 ?_
           intro a75 c75 o75
           obtain ⟨h79, hl0⟩ := chkb hl0
           conv => whnf
           refine int_in h79 ?_
           obtain ⟨h82, hl0⟩ := chkb hl0
           conv => whnf
           refine int_in h82 ?_
           conv => whnf
           refine RoundStep.mk (i0, (y0_0 ++ [(⟨x62.1, x62.2.1, y0_1, y0_2⟩ : S_ref42_Token)]), y0_1, (y0_2 + x62.2.2), (y0_3 + x62.2.2), a75, c75) ⟨rfl, rfl, rfl, rfl, trivial⟩ (by repeat (first | exact trivial | refine And.intro rfl ?_)) (ConvH.of (.cons r0 (.cons r1 .nil))) (lk0.trans l62) (Nat.lt_succ_self _) ⟨o75, hl0⟩
         ·replace hl0 := iff_ (and_g (and_t g50_14 g54_14) w47) hl0
          obtain ⟨h79, hl0⟩ := chkb hl0
          conv => whnf
          refine int_in h79 ?_
          obtain ⟨h82, hl0⟩ := chkb hl0
          conv => whnf
          refine int_in h82 ?_
          conv => whnf
          refine RoundStep.mk (i0, y0_0, y0_1, (y0_2 + 1), (y0_3 + 1), y0_a0, y0_c0) ⟨rfl, rfl, rfl, rfl, trivial⟩ (by repeat (first | exact trivial | refine And.intro rfl ?_)) (ConvH.of (.cons r0 (.cons r0 .nil))) lk0 (Nat.lt_succ_self _) ⟨y0_h0, hl0⟩
        ·conv => whnf
         refine cond_f g54_14 ?_
         conv => whnf
         refine cond_f g54_14 ?_
         conv => whnf
         refine CStep.ownLe r0 fun hc11 => ?_
         conv => whnf
         refine cond_go rfl ?_
         conv => whnf
         refine cond_F ?_
         replace hl0 := iff_ (and_f (and_g g50_14 g54_14)) hl0
         obtain ⟨h79, hl0⟩ := chkb hl0
         conv => whnf
         refine int_in h79 ?_
         obtain ⟨h82, hl0⟩ := chkb hl0
         conv => whnf
         refine int_in h82 ?_
         conv => whnf
         refine RoundStep.mk (i0, y0_0, y0_1, (y0_2 + 1), (y0_3 + 1), y0_a0, y0_c0) ⟨rfl, rfl, rfl, rfl, trivial⟩ (by repeat (first | exact trivial | refine And.intro rfl ?_)) (ConvH.of (.cons r0 (.cons r0 .nil))) lk0 (Nat.lt_succ_self _) ⟨y0_h0, hl0⟩
       ·conv => whnf
        refine cond_f g50_14 ?_
        conv => whnf
        refine cond_f g50_14 ?_
        conv => whnf
        refine cond_F ?_
        conv => whnf
        refine cond_F ?_
        conv => whnf
        refine cond_F ?_
        conv => whnf
        refine CStep.ownLe r0 fun hc12 => ?_
        conv => whnf
        refine cond_go rfl ?_
        conv => whnf
        refine cond_F ?_
        replace hl0 := iff_ (and_f (and_f g50_14)) hl0
        obtain ⟨h79, hl0⟩ := chkb hl0
        conv => whnf
        refine int_in h79 ?_
        obtain ⟨h82, hl0⟩ := chkb hl0
        conv => whnf
        refine int_in h82 ?_
        conv => whnf
        refine RoundStep.mk (i0, y0_0, y0_1, (y0_2 + 1), (y0_3 + 1), y0_a0, y0_c0) ⟨rfl, rfl, rfl, rfl, trivial⟩ (by repeat (first | exact trivial | refine And.intro rfl ?_)) (ConvH.of (.cons r0 (.cons r0 .nil))) lk0 (Nat.lt_succ_self _) ⟨y0_h0, hl0⟩
    ·replace hl0 := iff_ w19 hl0
     conv => whnf
     refine cond_T ?_
     conv => whnf
     refine MeetStep.mk ((y0_0, y0_1, y0_2, y0_3), y0_a0, y0_c0) ⟨rfl, rfl, rfl, rfl, trivial⟩ (by repeat (first | exact trivial | refine And.intro rfl ?_)) (ConvH.of (.cons r0 (.cons r0 .nil))) lk0 ⟨y0_h0, (si hl0).symm⟩
  ·rintro ⟨t0, t0_a0, t0_c0⟩ Kt0 lt0 ⟨t0_h0, rfl⟩ j0
   replace hm := elg hm
   conv => whnf
   refine build_struct rfl rfl ?_
   conv => whnf
   refine cond_T ?_
   conv => whnf
   refine cond_T ?_
   conv => whnf
   refine cond_T ?_
   conv => whnf
   refine cond_T ?_
   conv => whnf
   refine bsO (len := 1) (enc := S_ref42_Token.enc) (l := [(⟨5, ([] : Str), t0.2.1, t0.2.2.1⟩ : S_ref42_Token)]) (cl := [.int .i64 5, str ([] : Str), .int .i64 t0.2.1, .int .i64 t0.2.2.1]) elT115 rfl rfl (fun _ _ => rfl) rfl rfl rfl ?_ fun b87 => ?_
   ·conv => whnf
    refine cond_T ?_
    conv => whnf
    first | done | rfl
   obtain ⟨h88, hm⟩ := chkb hm
   conv => whnf
   refine apE rfl r1 elT115 (src_own' rfl r0 rfl (fun _ => rfl) (fun _ => rfl)) h88 ?_
   intro a88 c88 o88
   obtain rfl := si hm
   conv => whnf
   refine EndStep.mk _ lt0 ⟨a88, c88, rfl, o88, rfl⟩ (ConvH.of (.cons r0 (.cons r1 .nil)))

noncomputable def ref43_token (n : Nat) (s : Str) (kind : Int) : Option (Bool) :=
 (ref42_Split n s).bind fun x9 =>
 (if (decide (x9.2 = 0) && decide ((x9.1.length : Int) = 2)) then (ix x9.1 0).bind fun x21 =>
 some (decide (x21.Kind = kind)) else some false).bind fun x26 =>
 (if x26 then (ix x9.1 0).bind fun x29 =>
 some (decide (x29.Text = s)) else some false).bind fun x34 =>
 (if x34 then (ix x9.1 0).bind fun x37 =>
 some (decide (x37.Column = 1)) else some false).bind fun x41 =>
 (if x41 then (ix x9.1 1).bind fun x44 =>
 (chk (InI ((s.length : Int) + 1))).bind fun _ =>
 some (decide (x44.Column = ((s.length : Int) + 1))) else some false).bind fun x51 =>
 (if x51 then (ix x9.1 1).bind fun x54 =>
 some (decide (x54.Line = 1)) else some false).bind fun x58 =>
 some x58
set_option maxHeartbeats 8000000 in
theorem ref43_token_ok {n : Nat} {s : Str} {kind : Int} {K : Hp} {r : Bool}
  (hm : ref43_token n s kind = some r)  :
  Fn Tryd.prog 76 [str s, .int .i64 kind] K [] (fun v K' H' => v = .bool r ∧ H' = []) := by
 refine Fn.enter Tryd.func76 Tryd.call76 rfl fun F => ?_
 unfold ref43_token at hm
 obtain ⟨x9, q9, hm⟩ := bnd hm
 conv => whnf
 refine call_fn (ref42_Split_ok (text := s) q9) .nil ?_
 rintro _ K9 _ l9 ⟨a9_0, c9_0, rfl, h9_0, rfl⟩
 conv => whnf
 refine eq_int ?_
 conv => whnf
 refine cond_s (fun g14_2 => ?_) (fun g14_2 => ?_)
 ·conv => whnf
  refine cond_t g14_2 ?_
  conv => whnf
  refine RStep.of (len_slice rfl ?_)
  conv => whnf
  refine cond_t g14_2 ?_
  conv => whnf
  refine eq_int ?_
  conv => whnf
  refine cond_t g14_2 ?_
  obtain ⟨x26, e26, hm⟩ := bnd hm
  conv => whnf
  refine cond_s (fun g19_2 => ?_) (fun g19_2 => ?_)
  ·replace e26 := ift (and_t g14_2 g19_2) e26
   conv => whnf
   refine cond_t g19_2 ?_
   obtain ⟨x21, l21, k21, e26⟩ := ixb e26
   conv => whnf
   refine RStep.ofN (index_addr rfl rfl (hasO h9_0 k21) l21 (lt_ofE rfl l21 k21) ?_)
   conv => whnf
   refine cond_t g19_2 ?_
   conv => whnf
   refine eptr_field rfl (hasO h9_0 k21) ?_
   conv => whnf
   refine cond_t g19_2 ?_
   conv => whnf
   refine RStep.of (ld_own (i := (0 : Int).toNat) (o := 0) r0 rfl k21 rfl rfl ?_)
   conv => whnf
   refine cond_t g19_2 ?_
   conv => whnf
   refine cond_t g19_2 ?_
   conv => whnf
   refine eq_int ?_
   conv => whnf
   refine cond_t g19_2 ?_
   obtain ⟨x34, e34, hm⟩ := bnd hm
   conv => whnf
   refine cond_s (fun g27_2 => ?_) (fun g27_2 => ?_)
   ·replace e34 := ift ((si e26).symm.trans g27_2) e34
    conv => whnf
    refine cond_t g27_2 ?_
    obtain ⟨x29, l29, k29, e34⟩ := ixb e34
    conv => whnf
    refine RStep.ofN (index_addr rfl rfl (hasO h9_0 k29) l29 (lt_ofE rfl l29 k29) ?_)
    conv => whnf
    refine cond_t g27_2 ?_
    conv => whnf
    refine eptr_field rfl (hasO h9_0 k29) ?_
    conv => whnf
    refine cond_t g27_2 ?_
    conv => whnf
    refine RStep.of (ld_own (i := (0 : Int).toNat) (o := 1) r0 rfl k29 rfl rfl ?_)
    conv => whnf
    refine cond_t g27_2 ?_
    conv => whnf
    refine cond_t g27_2 ?_
    conv => whnf
    refine eq_str ?_
    conv => whnf
    refine cond_t g27_2 ?_
    obtain ⟨x41, e41, hm⟩ := bnd hm
    conv => whnf
    refine cond_s (fun g35_2 => ?_) (fun g35_2 => ?_)
    ·replace e41 := ift ((si e34).symm.trans g35_2) e41
     conv => whnf
     refine cond_t g35_2 ?_
     obtain ⟨x37, l37, k37, e41⟩ := ixb e41
     conv => whnf
     refine RStep.ofN (index_addr rfl rfl (hasO h9_0 k37) l37 (lt_ofE rfl l37 k37) ?_)
     conv => whnf
     refine cond_t g35_2 ?_
     conv => whnf
     refine eptr_field rfl (hasO h9_0 k37) ?_
     conv => whnf
     refine cond_t g35_2 ?_
     conv => whnf
     refine RStep.of (ld_own (i := (0 : Int).toNat) (o := 3) r0 rfl k37 rfl rfl ?_)
     conv => whnf
     refine cond_t g35_2 ?_
     conv => whnf
     refine eq_int ?_
     conv => whnf
     refine cond_t g35_2 ?_
     obtain ⟨x51, e51, hm⟩ := bnd hm
     conv => whnf
     refine cond_s (fun g42_2 => ?_) (fun g42_2 => ?_)
     ·replace e51 := ift ((si e41).symm.trans g42_2) e51
      conv => whnf
      refine cond_t g42_2 ?_
      obtain ⟨x44, l44, k44, e51⟩ := ixb e51
      conv => whnf
      refine RStep.ofN (index_addr rfl rfl (hasO h9_0 k44) l44 (lt_ofE rfl l44 k44) ?_)
      conv => whnf
      refine cond_t g42_2 ?_
      conv => whnf
      refine eptr_field rfl (hasO h9_0 k44) ?_
      conv => whnf
      refine cond_t g42_2 ?_
      conv => whnf
      refine RStep.of (ld_own (i := (1 : Int).toNat) (o := 3) r0 rfl k44 rfl rfl ?_)
      conv => whnf
      refine cond_t g42_2 ?_
      conv => whnf
      refine cond_t g42_2 ?_
      conv => whnf
      refine RStep.of (len_str rfl ?_)
      conv => whnf
      refine cond_t g42_2 ?_
      obtain ⟨h49, e51⟩ := chkb e51
      conv => whnf
      refine int_in h49 ?_
      conv => whnf
      refine cond_t g42_2 ?_
      conv => whnf
      refine eq_int ?_
      conv => whnf
      refine cond_t g42_2 ?_
      obtain ⟨x58, e58, hm⟩ := bnd hm
      conv => whnf
      refine cond_s (fun g52_2 => ?_) (fun g52_2 => ?_)
      ·replace e58 := ift ((si e51).symm.trans g52_2) e58
       conv => whnf
       refine cond_t g52_2 ?_
       obtain ⟨x54, l54, k54, e58⟩ := ixb e58
       conv => whnf
       refine RStep.ofN (index_addr rfl rfl (hasO h9_0 k54) l54 (lt_ofE rfl l54 k54) ?_)
       conv => whnf
       refine cond_t g52_2 ?_
       conv => whnf
       refine eptr_field rfl (hasO h9_0 k54) ?_
       conv => whnf
       refine cond_t g52_2 ?_
       conv => whnf
       refine RStep.of (ld_own (i := (1 : Int).toNat) (o := 2) r0 rfl k54 rfl rfl ?_)
       conv => whnf
       refine cond_t g52_2 ?_
       conv => whnf
       refine eq_int ?_
       conv => whnf
       refine cond_t g52_2 ?_
       obtain rfl := si hm
       conv => whnf
       refine EndStep.mk _ l9 ⟨(by rw [← (si e58)] <;> rfl), rfl⟩ (ConvH.of (.cons r1 .nil))
      ·replace e58 := iff_ ((si e51).symm.trans g52_2) e58
       conv => whnf
       refine cond_f g52_2 ?_
       conv => whnf
       refine cond_f g52_2 ?_
       conv => whnf
       refine cond_f g52_2 ?_
       conv => whnf
       refine cond_f g52_2 ?_
       conv => whnf
       refine cond_f g52_2 ?_
       obtain rfl := si hm
       conv => whnf
       refine EndStep.mk _ l9 ⟨(by rw [← ((si e58).symm).symm] <;> rfl), rfl⟩ (ConvH.of (.cons r1 .nil))
     ·replace e51 := iff_ ((si e41).symm.trans g42_2) e51
      conv => whnf
      refine cond_f g42_2 ?_
      conv => whnf
      refine cond_f g42_2 ?_
      conv => whnf
      refine cond_f g42_2 ?_
      conv => whnf
      refine cond_f g42_2 ?_
      conv => whnf
      refine cond_f g42_2 ?_
      conv => whnf
      refine cond_f g42_2 ?_
      conv => whnf
      refine cond_f g42_2 ?_
      conv => whnf
      refine cond_f g42_2 ?_
      obtain ⟨x58, e58, hm⟩ := bnd hm
      replace e58 := iff_ (si e51).symm e58
      conv => whnf
      refine cond_F ?_
      conv => whnf
      refine cond_F ?_
      conv => whnf
      refine cond_F ?_
      conv => whnf
      refine cond_F ?_
      conv => whnf
      refine cond_F ?_
      conv => whnf
      refine cond_F ?_
      obtain rfl := si hm
      conv => whnf
      refine EndStep.mk _ l9 ⟨(by rw [← ((si e58).symm).symm] <;> rfl), rfl⟩ (ConvH.of (.cons r1 .nil))
    ·replace e41 := iff_ ((si e34).symm.trans g35_2) e41
     conv => whnf
     refine cond_f g35_2 ?_
     conv => whnf
     refine cond_f g35_2 ?_
     conv => whnf
     refine cond_f g35_2 ?_
     conv => whnf
     refine cond_f g35_2 ?_
     conv => whnf
     refine cond_f g35_2 ?_
     obtain ⟨x51, e51, hm⟩ := bnd hm
     replace e51 := iff_ (si e41).symm e51
     conv => whnf
     refine cond_F ?_
     conv => whnf
     refine cond_F ?_
     conv => whnf
     refine cond_F ?_
     conv => whnf
     refine cond_F ?_
     conv => whnf
     refine cond_F ?_
     conv => whnf
     refine cond_F ?_
     conv => whnf
     refine cond_F ?_
     conv => whnf
     refine cond_F ?_
     conv => whnf
     refine cond_F ?_
     obtain ⟨x58, e58, hm⟩ := bnd hm
     replace e58 := iff_ (si e51).symm e58
     conv => whnf
     refine cond_F ?_
     conv => whnf
     refine cond_F ?_
     conv => whnf
     refine cond_F ?_
     conv => whnf
     refine cond_F ?_
     conv => whnf
     refine cond_F ?_
     conv => whnf
     refine cond_F ?_
     obtain rfl := si hm
     conv => whnf
     refine EndStep.mk _ l9 ⟨(by rw [← ((si e58).symm).symm] <;> rfl), rfl⟩ (ConvH.of (.cons r1 .nil))
   ·replace e34 := iff_ ((si e26).symm.trans g27_2) e34
    conv => whnf
    refine cond_f g27_2 ?_
    conv => whnf
    refine cond_f g27_2 ?_
    conv => whnf
    refine cond_f g27_2 ?_
    conv => whnf
    refine cond_f g27_2 ?_
    conv => whnf
    refine cond_f g27_2 ?_
    conv => whnf
    refine cond_f g27_2 ?_
    obtain ⟨x41, e41, hm⟩ := bnd hm
    replace e41 := iff_ (si e34).symm e41
    conv => whnf
    refine cond_F ?_
    conv => whnf
    refine cond_F ?_
    conv => whnf
    refine cond_F ?_
    conv => whnf
    refine cond_F ?_
    conv => whnf
    refine cond_F ?_
    conv => whnf
    refine cond_F ?_
    obtain ⟨x51, e51, hm⟩ := bnd hm
    replace e51 := iff_ (si e41).symm e51
    conv => whnf
    refine cond_F ?_
    conv => whnf
    refine cond_F ?_
    conv => whnf
    refine cond_F ?_
    conv => whnf
    refine cond_F ?_
    conv => whnf
    refine cond_F ?_
    conv => whnf
    refine cond_F ?_
    conv => whnf
    refine cond_F ?_
    conv => whnf
    refine cond_F ?_
    conv => whnf
    refine cond_F ?_
    obtain ⟨x58, e58, hm⟩ := bnd hm
    replace e58 := iff_ (si e51).symm e58
    conv => whnf
    refine cond_F ?_
    conv => whnf
    refine cond_F ?_
    conv => whnf
    refine cond_F ?_
    conv => whnf
    refine cond_F ?_
    conv => whnf
    refine cond_F ?_
    conv => whnf
    refine cond_F ?_
    obtain rfl := si hm
    conv => whnf
    refine EndStep.mk _ l9 ⟨(by rw [← ((si e58).symm).symm] <;> rfl), rfl⟩ (ConvH.of (.cons r1 .nil))
  ·replace e26 := iff_ (and_g g14_2 g19_2) e26
   conv => whnf
   refine cond_f g19_2 ?_
   conv => whnf
   refine cond_f g19_2 ?_
   conv => whnf
   refine cond_f g19_2 ?_
   conv => whnf
   refine cond_f g19_2 ?_
   conv => whnf
   refine cond_f g19_2 ?_
   conv => whnf
   refine cond_f g19_2 ?_
   obtain ⟨x34, e34, hm⟩ := bnd hm
   replace e34 := iff_ (si e26).symm e34
   conv => whnf
   refine cond_F ?_
   conv => whnf
   refine cond_F ?_
   conv => whnf
   refine cond_F ?_
   conv => whnf
   refine cond_F ?_
   conv => whnf
   refine cond_F ?_
   conv => whnf
   refine cond_F ?_
   conv => whnf
   refine cond_F ?_
   obtain ⟨x41, e41, hm⟩ := bnd hm
   replace e41 := iff_ (si e34).symm e41
   conv => whnf
   refine cond_F ?_
   conv => whnf
   refine cond_F ?_
   conv => whnf
   refine cond_F ?_
   conv => whnf
   refine cond_F ?_
   conv => whnf
   refine cond_F ?_
   conv => whnf
   refine cond_F ?_
   obtain ⟨x51, e51, hm⟩ := bnd hm
   replace e51 := iff_ (si e41).symm e51
   conv => whnf
   refine cond_F ?_
   conv => whnf
   refine cond_F ?_
   conv => whnf
   refine cond_F ?_
   conv => whnf
   refine cond_F ?_
   conv => whnf
   refine cond_F ?_
   conv => whnf
   refine cond_F ?_
   conv => whnf
   refine cond_F ?_
   conv => whnf
   refine cond_F ?_
   conv => whnf
   refine cond_F ?_
   obtain ⟨x58, e58, hm⟩ := bnd hm
   replace e58 := iff_ (si e51).symm e58
   conv => whnf
   refine cond_F ?_
   conv => whnf
   refine cond_F ?_
   conv => whnf
   refine cond_F ?_
   conv => whnf
   refine cond_F ?_
   conv => whnf
   refine cond_F ?_
   conv => whnf
   refine cond_F ?_
   obtain rfl := si hm
   conv => whnf
   refine EndStep.mk _ l9 ⟨(by rw [← ((si e58).symm).symm] <;> rfl), rfl⟩ (ConvH.of (.cons r1 .nil))
 ·conv => whnf
  refine cond_f g14_2 ?_
  conv => whnf
  refine cond_f g14_2 ?_
  conv => whnf
  refine cond_f g14_2 ?_
  obtain ⟨x26, e26, hm⟩ := bnd hm
  replace e26 := iff_ (and_f g14_2) e26
  conv => whnf
  refine cond_F ?_
  conv => whnf
  refine cond_F ?_
  conv => whnf
  refine cond_F ?_
  conv => whnf
  refine cond_F ?_
  conv => whnf
  refine cond_F ?_
  conv => whnf
  refine cond_F ?_
  conv => whnf
  refine cond_F ?_
  obtain ⟨x34, e34, hm⟩ := bnd hm
  replace e34 := iff_ (si e26).symm e34
  conv => whnf
  refine cond_F ?_
  conv => whnf
  refine cond_F ?_
  conv => whnf
  refine cond_F ?_
  conv => whnf
  refine cond_F ?_
  conv => whnf
  refine cond_F ?_
  conv => whnf
  refine cond_F ?_
  conv => whnf
  refine cond_F ?_
  obtain ⟨x41, e41, hm⟩ := bnd hm
  replace e41 := iff_ (si e34).symm e41
  conv => whnf
  refine cond_F ?_
  conv => whnf
  refine cond_F ?_
  conv => whnf
  refine cond_F ?_
  conv => whnf
  refine cond_F ?_
  conv => whnf
  refine cond_F ?_
  conv => whnf
  refine cond_F ?_
  obtain ⟨x51, e51, hm⟩ := bnd hm
  replace e51 := iff_ (si e41).symm e51
  conv => whnf
  refine cond_F ?_
  conv => whnf
  refine cond_F ?_
  conv => whnf
  refine cond_F ?_
  conv => whnf
  refine cond_F ?_
  conv => whnf
  refine cond_F ?_
  conv => whnf
  refine cond_F ?_
  conv => whnf
  refine cond_F ?_
  conv => whnf
  refine cond_F ?_
  conv => whnf
  refine cond_F ?_
  obtain ⟨x58, e58, hm⟩ := bnd hm
  replace e58 := iff_ (si e51).symm e58
  conv => whnf
  refine cond_F ?_
  conv => whnf
  refine cond_F ?_
  conv => whnf
  refine cond_F ?_
  conv => whnf
  refine cond_F ?_
  conv => whnf
  refine cond_F ?_
  conv => whnf
  refine cond_F ?_
  obtain rfl := si hm
  conv => whnf
  refine EndStep.mk _ l9 ⟨(by rw [← ((si e58).symm).symm] <;> rfl), rfl⟩ (ConvH.of (.cons r1 .nil))

noncomputable def ref42_Quote_L0 (s : Str) : List UInt8 → Nat → Str → Option (Fl (Str × Bool) (Str))
 | [], _, y0_0 => some (Fl.go y0_0)
 | e0 :: xs0, i0, y0_0 =>
  (if decide ((e0.toNat : Int) < 32) then some true else some (decide ((e0.toNat : Int) > 126))).bind fun x20 =>
  if x20 then
  some (Fl.ret (([] : Str), false))
  else
  (if decide ((e0.toNat : Int) = 34) then some true else some (decide ((e0.toNat : Int) = 92))).bind fun x30 =>
  if x30 then
  (chk (y0_0.length + ([(92 : UInt8)] : Str).length ≤ lim)).bind fun _ =>
  (chk (0 ≤ (i0 : Int) ∧ (i0 : Int) ≤ ((i0 : Int) + 1) ∧ ((i0 : Int) + 1) ≤ (s.length : Int))).bind fun _ =>
  (chk ((y0_0 ++ ([(92 : UInt8)] : Str)).length + (subL s (i0 : Int) ((i0 : Int) + 1)).length ≤ lim)).bind fun _ =>
  ref42_Quote_L0 s xs0 (i0 + 1) ((y0_0 ++ ([(92 : UInt8)] : Str)) ++ (subL s (i0 : Int) ((i0 : Int) + 1)))
  else
  (chk (0 ≤ (i0 : Int) ∧ (i0 : Int) ≤ ((i0 : Int) + 1) ∧ ((i0 : Int) + 1) ≤ (s.length : Int))).bind fun _ =>
  (chk (y0_0.length + (subL s (i0 : Int) ((i0 : Int) + 1)).length ≤ lim)).bind fun _ =>
  ref42_Quote_L0 s xs0 (i0 + 1) (y0_0 ++ (subL s (i0 : Int) ((i0 : Int) + 1)))
noncomputable def ref42_Quote (s : Str) : Option (Str × Bool) :=
 (chk (s.length ≤ szMax)).bind fun _ =>
 (ref42_Quote_L0 s s 0 ([34] : Str)).bind fun s0 => s0.el some fun t0 =>
 (chk (t0.length + ([34] : Str).length ≤ lim)).bind fun _ =>
 some ((t0 ++ ([34] : Str)), true)
set_option maxHeartbeats 8000000 in
theorem ref42_Quote_ok {s : Str} {K : Hp} {r : Str × Bool}
  (hm : ref42_Quote s = some r)  :
  Fn Tryd.prog 78 [str s] K [] (fun v K' H' => v = .tuple #[str r.1, .bool r.2] ∧ H' = []) := by
 refine Fn.enter Tryd.func78 Tryd.call78 rfl fun F => ?_
 unfold ref42_Quote at hm
 conv => whnf
 refine RStep.of (len_str rfl ?_)
 obtain ⟨hk0, hm⟩ := chkb hm
 obtain ⟨s0, hl0, hm⟩ := bnd hm
 conv => whnf
 refine code_cut (σ := (Str)) [2, 3, 4, 5, 8, 9, 10, 11, 12, 13, 14, 15, 16, 17, 18, 19, 20, 21, 22, 23, 24, 25, 26, 27, 28, 29, 30, 31, 32, 33, 34, 35, 36, 37, 38, 39, 40, 41, 42] (fun t0 => [(4, str t0)]) (fun t0 => [F]) (fun zz K1 => match zz with | t0 => s0 = Fl.go t0) ?_ ?_
 ·refine block_go rfl ?_
  conv => whnf
  refine loop_rule (σ := Nat × Str) [2, 3, 4, 5, 8, 9, 10, 11, 12, 13, 14, 15, 16, 17, 18, 19, 20, 21, 22, 23, 24, 25, 26, 27, 28, 29, 30, 31, 32, 33, 34, 35, 36, 37, 38, 39, 40, 41, 42] (fun (i0, y0_0) => [(8, .int .i64 (i0 : Int)), (4, str y0_0)]) (fun (i0, y0_0) => [F]) (fun zz K1 => match zz with | (i0, y0_0) => ref42_Quote_L0 s (s.drop i0) i0 y0_0 = some s0) (fun zz => s.length - zz.1) (0, ([34] : Str)) rfl ⟨rfl, rfl, trivial⟩ (ConvH.of (.cons r0 .nil)) hl0 ?_
  clear hl0
  rintro ⟨i0, y0_0⟩ Kb0 lk0 hl0 j0
  conv at hl0 => whnf
  conv => whnf
  refine cond_go rfl ?_
  conv => whnf
  refine cond_s (fun w0 => ?_) (fun w0 => ?_)
  ·obtain ⟨e0, hx0, hd0⟩ := ltx w0
   rw [hd0, ref42_Quote_L0.eq_2] at hl0
   conv => whnf
   refine block_go rfl ?_
   conv => whnf
   refine idx_str rfl (nn _) hx0 ?_
   obtain ⟨x20, e20, hl0⟩ := bnd hl0
   conv => whnf
   refine cond_s (fun g15_5 => ?_) (fun g15_5 => ?_)
   ·replace e20 := ift g15_5 e20
    conv => whnf
    refine cond_t g15_5 ?_
    conv => whnf
    refine cond_t g15_5 ?_
    conv => whnf
    refine cond_t g15_5 ?_
    conv => whnf
    refine cond_t g15_5 ?_
    conv => whnf
    refine cond_go rfl ?_
    conv => whnf
    refine cond_T ?_
    replace hl0 := ift (si e20).symm hl0
    obtain rfl := si hl0
    replace hm := elr hm
    obtain rfl := si hm
    conv => whnf
    refine EndStep.mk _ lk0 ⟨rfl, rfl⟩ (ConvH.of (.cons r0 .nil))
   ·replace e20 := iff_ g15_5 e20
    conv => whnf
    refine cond_f g15_5 ?_
    conv => whnf
    refine cond_f g15_5 ?_
    conv => whnf
    refine idx_str rfl (nn _) hx0 ?_
    conv => whnf
    refine cond_f g15_5 ?_
    conv => whnf
    refine cond_f g15_5 ?_
    conv => whnf
    refine cond_go rfl ?_
    conv => whnf
    refine cond_s (fun w20 => ?_) (fun w20 => ?_)
    ·replace hl0 := ift ((si e20).symm.trans w20) hl0
     obtain rfl := si hl0
     replace hm := elr hm
     obtain rfl := si hm
     conv => whnf
     refine EndStep.mk _ lk0 ⟨rfl, rfl⟩ (ConvH.of (.cons r0 .nil))
    ·replace hl0 := iff_ ((si e20).symm.trans w20) hl0
     conv => whnf
     refine idx_str rfl (nn _) hx0 ?_
     conv => whnf
     refine eq_int ?_
     obtain ⟨x30, e30, hl0⟩ := bnd hl0
     conv => whnf
     refine cond_s (fun g25_7 => ?_) (fun g25_7 => ?_)
     ·replace e30 := ift g25_7 e30
      conv => whnf
      refine cond_t g25_7 ?_
      conv => whnf
      refine cond_t g25_7 ?_
      conv => whnf
      refine cond_t g25_7 ?_
      conv => whnf
      refine cond_t g25_7 ?_
      conv => whnf
      refine cond_go rfl ?_
      conv => whnf
      refine cond_T ?_
      replace hl0 := ift (si e30).symm hl0
      conv => whnf
      refine bsO (len := 1) (enc := eU) (l := ([(92 : UInt8)] : Str)) (cl := [.int .u8 92]) elT110 rfl rfl (fun _ _ => rfl) rfl rfl rfl ?_ fun b32 => ?_
      ·conv => whnf
       refine cond_T ?_
       conv => whnf
       first | done | rfl
      conv => whnf
      refine RStep.of (cv_ownE rfl r0 rfl rfl rfl ?_)
      obtain ⟨h34, hl0⟩ := chkb hl0
      conv => whnf
      refine cat_str h34 ?_
      conv => whnf
      refine int_in (cntz hx0 hk0) ?_
      obtain ⟨h40, hl0⟩ := chkb hl0
      conv => whnf
      refine RStep.ofN (sl_str (lo := (some (i0 : Int))) (hi := (some ((i0 : Int) + 1))) rfl h40 ?_)
      obtain ⟨h41, hl0⟩ := chkb hl0
      conv => whnf
      refine cat_str h41 ?_
      conv => whnf
      refine int_in (cntz hx0 hk0) ?_
      conv => whnf
      refine RoundStep.mk (i0 + 1, ((y0_0 ++ ([(92 : UInt8)] : Str)) ++ (subL s (i0 : Int) ((i0 : Int) + 1)))) ⟨rfl, rfl, trivial⟩ (by repeat (first | exact trivial | refine And.intro rfl ?_)) (ConvH.of (.cons r1 .nil)) lk0 (ltm hx0) hl0
     ·replace e30 := iff_ g25_7 e30
      conv => whnf
      refine cond_f g25_7 ?_
      conv => whnf
      refine cond_f g25_7 ?_
      conv => whnf
      refine idx_str rfl (nn _) hx0 ?_
      conv => whnf
      refine cond_f g25_7 ?_
      conv => whnf
      refine eq_int ?_
      conv => whnf
      refine cond_f g25_7 ?_
      conv => whnf
      refine cond_go rfl ?_
      conv => whnf
      refine cond_s (fun w30 => ?_) (fun w30 => ?_)
      ·replace hl0 := ift ((si e30).symm.trans w30) hl0
       conv => whnf
       refine bsO (len := 1) (enc := eU) (l := ([(92 : UInt8)] : Str)) (cl := [.int .u8 92]) elT110 rfl rfl (fun _ _ => rfl) rfl rfl rfl ?_ fun b32 => ?_
       ·conv => whnf
        refine cond_T ?_
        conv => whnf
        first | done | rfl
       conv => whnf
       refine RStep.of (cv_ownE rfl r0 rfl rfl rfl ?_)
       obtain ⟨h34, hl0⟩ := chkb hl0
       conv => whnf
       refine cat_str h34 ?_
       conv => whnf
       refine int_in (cntz hx0 hk0) ?_
       obtain ⟨h40, hl0⟩ := chkb hl0
       conv => whnf
       refine RStep.ofN (sl_str (lo := (some (i0 : Int))) (hi := (some ((i0 : Int) + 1))) rfl h40 ?_)
       obtain ⟨h41, hl0⟩ := chkb hl0
       conv => whnf
       refine cat_str h41 ?_
       conv => whnf
       refine int_in (cntz hx0 hk0) ?_
       conv => whnf
       refine RoundStep.mk (i0 + 1, ((y0_0 ++ ([(92 : UInt8)] : Str)) ++ (subL s (i0 : Int) ((i0 : Int) + 1)))) ⟨rfl, rfl, trivial⟩ (by repeat (first | exact trivial | refine And.intro rfl ?_)) (ConvH.of (.cons r1 .nil)) lk0 (ltm hx0) hl0
      ·replace hl0 := iff_ ((si e30).symm.trans w30) hl0
       conv => whnf
       refine int_in (cntz hx0 hk0) ?_
       obtain ⟨h40, hl0⟩ := chkb hl0
       conv => whnf
       refine RStep.ofN (sl_str (lo := (some (i0 : Int))) (hi := (some ((i0 : Int) + 1))) rfl h40 ?_)
       obtain ⟨h41, hl0⟩ := chkb hl0
       conv => whnf
       refine cat_str h41 ?_
       conv => whnf
       refine int_in (cntz hx0 hk0) ?_
       conv => whnf
       refine RoundStep.mk (i0 + 1, (y0_0 ++ (subL s (i0 : Int) ((i0 : Int) + 1)))) ⟨rfl, rfl, trivial⟩ (by repeat (first | exact trivial | refine And.intro rfl ?_)) (ConvH.of (.cons r0 .nil)) lk0 (ltm hx0) hl0
  ·rw [lty w0, ref42_Quote_L0.eq_1] at hl0
   conv => whnf
   refine cond_T ?_
   conv => whnf
   refine MeetStep.mk (y0_0) ⟨rfl, trivial⟩ (by repeat (first | exact trivial | refine And.intro rfl ?_)) (ConvH.of (.cons r0 .nil)) lk0 (si hl0).symm
 ·rintro t0 Kt0 lt0 rfl j0
  replace hm := elg hm
  obtain ⟨h44, hm⟩ := chkb hm
  conv => whnf
  refine cat_str h44 ?_
  obtain rfl := si hm
  conv => whnf
  refine EndStep.mk _ lt0 ⟨rfl, rfl⟩ (ConvH.of (.cons r0 .nil))

noncomputable def ref43_printable (s : Str) : Option (Bool) :=
 (ref42_Quote s).bind fun x7 =>
 some x7.2
set_option maxHeartbeats 8000000 in
theorem ref43_printable_ok {s : Str} {K : Hp} {r : Bool}
  (hm : ref43_printable s = some r)  :
  Fn Tryd.prog 66 [str s] K [] (fun v K' H' => v = .bool r ∧ H' = []) := by
 refine Fn.enter Tryd.func66 Tryd.call66 rfl fun F => ?_
 unfold ref43_printable at hm
 obtain ⟨x7, q7, hm⟩ := bnd hm
 conv => whnf
 refine call_fn (ref42_Quote_ok (s := s) q7) .nil ?_
 rintro _ K7 _ l7 ⟨rfl, rfl⟩
 obtain rfl := si hm
 conv => whnf
 refine EndStep.mk _ l7 ⟨rfl, rfl⟩ (ConvH.of (.cons r0 .nil))

noncomputable def ref42_Keywords : Option ((List Str)) :=
 some ([([105, 102] : Str), ([101, 108, 115, 101] : Str), ([108, 101, 116] : Str), ([118, 97, 114, 121] : Str), ([116, 97, 103] : Str), ([116, 116, 108] : Str), ([100, 101, 110, 121] : Str), ([112, 97, 115, 115] : Str), ([116, 111, 107, 101, 110] : Str), ([111, 114] : Str), ([97, 110, 100] : Str), ([110, 111, 116] : Str), ([115, 116, 97, 114, 116, 115] : Str), ([101, 110, 100, 115] : Str), ([99, 111, 110, 116, 97, 105, 110, 115] : Str), ([116, 114, 117, 101] : Str), ([102, 97, 108, 115, 101] : Str)])
set_option maxHeartbeats 8000000 in
theorem ref42_Keywords_ok  {K : Hp} {r : (List Str)}
  (hm : ref42_Keywords = some r)  :
  Fn Tryd.prog 84 [] K [] (fun v K' H' => ∃ ar_0 : Option Addr, ∃ cr_0 : Nat, v = .slice ar_0 r.length cr_0 ∧ (0 < r.length → Has ar_0) ∧ H' = [OwnL eS ar_0 9 1 cr_0 r]) := by
 refine Fn.enter Tryd.func84 Tryd.call84 rfl fun F => ?_
 unfold ref42_Keywords at hm
 conv => whnf
 refine bsO (len := 17) (enc := eS) (l := [([105, 102] : Str), ([101, 108, 115, 101] : Str), ([108, 101, 116] : Str), ([118, 97, 114, 121] : Str), ([116, 97, 103] : Str), ([116, 116, 108] : Str), ([100, 101, 110, 121] : Str), ([112, 97, 115, 115] : Str), ([116, 111, 107, 101, 110] : Str), ([111, 114] : Str), ([97, 110, 100] : Str), ([110, 111, 116] : Str), ([115, 116, 97, 114, 116, 115] : Str), ([101, 110, 100, 115] : Str), ([99, 111, 110, 116, 97, 105, 110, 115] : Str), ([116, 114, 117, 101] : Str), ([102, 97, 108, 115, 101] : Str)]) (cl := [str ([105, 102] : Str), str ([101, 108, 115, 101] : Str), str ([108, 101, 116] : Str), str ([118, 97, 114, 121] : Str), str ([116, 97, 103] : Str), str ([116, 116, 108] : Str), str ([100, 101, 110, 121] : Str), str ([112, 97, 115, 115] : Str), str ([116, 111, 107, 101, 110] : Str), str ([111, 114] : Str), str ([97, 110, 100] : Str), str ([110, 111, 116] : Str), str ([115, 116, 97, 114, 116, 115] : Str), str ([101, 110, 100, 115] : Str), str ([99, 111, 110, 116, 97, 105, 110, 115] : Str), str ([116, 114, 117, 101] : Str), str ([102, 97, 108, 115, 101] : Str)]) elT114 rfl rfl (fun _ _ => rfl) rfl rfl rfl ?_ fun b1 => ?_
 ·conv => whnf
  refine cond_T ?_
  conv => whnf
  refine cond_T ?_
  conv => whnf
  refine cond_T ?_
  conv => whnf
  refine cond_T ?_
  conv => whnf
  refine cond_T ?_
  conv => whnf
  refine cond_T ?_
  conv => whnf
  refine cond_T ?_
  conv => whnf
  refine cond_T ?_
  conv => whnf
  refine cond_T ?_
  conv => whnf
  refine cond_T ?_
  conv => whnf
  refine cond_T ?_
  conv => whnf
  refine cond_T ?_
  conv => whnf
  refine cond_T ?_
  conv => whnf
  refine cond_T ?_
  conv => whnf
  refine cond_T ?_
  conv => whnf
  refine cond_T ?_
  conv => whnf
  refine cond_T ?_
  conv => whnf
  first | done | rfl
 obtain rfl := si hm
 conv => whnf
 refine EndStep.mk _ (Hp.Le.refl _) ⟨(some ⟨b1, 0, none⟩), 17, rfl, (fun _ => ⟨_, _, rfl⟩), rfl⟩ (ConvH.of (.cons r0 (.cons r0 .nil)))

noncomputable def ref42_Keyword_L0 (s : Str) : List Str → Nat → Option (Fl (Bool) (Unit))
 | [], _ => some (Fl.go ())
 | e0 :: xs0, i0 =>
  if decide (e0 = s) then
  some (Fl.ret true)
  else
  ref42_Keyword_L0 s xs0 (i0 + 1)
noncomputable def ref42_Keyword (s : Str) : Option (Bool) :=
 (ref42_Keywords).bind fun x5 =>
 (chk (x5.length ≤ szMax)).bind fun _ =>
 (ref42_Keyword_L0 s x5 0).bind fun s0 => s0.el some fun t0 =>
 some false
set_option maxHeartbeats 8000000 in
theorem ref42_Keyword_ok {s : Str} {K : Hp} {r : Bool}
  (hm : ref42_Keyword s = some r)  :
  Fn Tryd.prog 77 [str s] K [] (fun v K' H' => v = .bool r ∧ H' = []) := by
 refine Fn.enter Tryd.func77 Tryd.call77 rfl fun F => ?_
 unfold ref42_Keyword at hm
 obtain ⟨x5, q5, hm⟩ := bnd hm
 conv => whnf
 refine call_fn (ref42_Keywords_ok q5) .nil ?_
 rintro _ K5 _ l5 ⟨a5_0, c5_0, rfl, h5_0, rfl⟩
 conv => whnf
 refine RStep.of (len_slice rfl ?_)
 obtain ⟨hk0, hm⟩ := chkb hm
 obtain ⟨s0, hl0, hm⟩ := bnd hm
 conv => whnf
 refine code_cut (σ := (Unit)) [2, 4, 8, 9, 10, 11, 12, 13, 14, 15, 16, 17] (fun t0 => []) (fun t0 => [OwnL eS a5_0 9 1 c5_0 x5, F]) (fun zz K1 => match zz with | t0 => s0 = Fl.go t0) ?_ ?_
 ·refine block_go rfl ?_
  conv => whnf
  refine loop_rule (σ := Nat) [2, 4, 8, 9, 10, 11, 12, 13, 14, 15, 16, 17] (fun i0 => [(8, .int .i64 (i0 : Int))]) (fun i0 => [OwnL eS a5_0 9 1 c5_0 x5, F]) (fun zz K1 => match zz with | i0 => ref42_Keyword_L0 s (x5.drop i0) i0 = some s0) (fun zz => x5.length - zz) (0) rfl ⟨rfl, trivial⟩ (ConvH.of (.cons r0 (.cons r0 .nil))) hl0 ?_
  clear hl0
  rintro i0 Kb0 lk0 hl0 j0
  conv at hl0 => whnf
  conv => whnf
  refine cond_go rfl ?_
  conv => whnf
  refine cond_s (fun w0 => ?_) (fun w0 => ?_)
  ·obtain ⟨e0, hx0, hd0⟩ := ltx w0
   rw [hd0, ref42_Keyword_L0.eq_2] at hl0
   conv => whnf
   refine block_go rfl ?_
   conv => whnf
   refine RStep.ofN (index_addr rfl rfl (hasO h5_0 hx0) (nn _) (lt_ofNE rfl hx0) ?_)
   conv => whnf
   refine RStep.of (ld_own (i := i0) (o := 0) r0 rfl hx0 rfl rfl ?_)
   conv => whnf
   refine eq_str ?_
   conv => whnf
   refine cond_go rfl ?_
   conv => whnf
   refine cond_s (fun w16 => ?_) (fun w16 => ?_)
   ·replace hl0 := ift w16 hl0
    obtain rfl := si hl0
    replace hm := elr hm
    obtain rfl := si hm
    conv => whnf
    refine EndStep.mk _ (l5.trans lk0) ⟨rfl, rfl⟩ (ConvH.of (.cons r1 .nil))
   ·replace hl0 := iff_ w16 hl0
    conv => whnf
    refine int_in (cntz hx0 hk0) ?_
    conv => whnf
    refine RoundStep.mk (i0 + 1) ⟨rfl, trivial⟩ (by repeat (first | exact trivial | refine And.intro rfl ?_)) (ConvH.of (.cons r0 (.cons r0 .nil))) lk0 (ltm hx0) hl0
  ·rw [lty w0, ref42_Keyword_L0.eq_1] at hl0
   conv => whnf
   refine cond_T ?_
   conv => whnf
   refine MeetStep.mk (()) trivial (by repeat (first | exact trivial | refine And.intro rfl ?_)) (ConvH.of (.cons r0 (.cons r0 .nil))) lk0 (si hl0).symm
 ·rintro t0 Kt0 lt0 rfl j0
  replace hm := elg hm
  obtain rfl := si hm
  conv => whnf
  refine EndStep.mk _ (l5.trans lt0) ⟨rfl, rfl⟩ (ConvH.of (.cons r1 .nil))

noncomputable def ref43_named (n : Nat) (s : Str) : Option (Bool) :=
 (ref43_token n s 1).bind fun x4 =>
 (if x4 then (ref42_Keyword s).bind fun x7 =>
 some (!x7) else some false).bind fun x9 =>
 some x9
set_option maxHeartbeats 8000000 in
theorem ref43_named_ok {n : Nat} {s : Str} {K : Hp} {r : Bool}
  (hm : ref43_named n s = some r)  :
  Fn Tryd.prog 64 [str s] K [] (fun v K' H' => v = .bool r ∧ H' = []) := by
 refine Fn.enter Tryd.func64 Tryd.call64 rfl fun F => ?_
 unfold ref43_named at hm
 obtain ⟨x4, q4, hm⟩ := bnd hm
 conv => whnf
 refine call_fn (ref43_token_ok (s := s) (kind := 1) q4) .nil ?_
 rintro _ K4 _ l4 ⟨rfl, rfl⟩
 obtain ⟨x9, e9, hm⟩ := bnd hm
 conv => whnf
 refine cond_s (fun g5_1 => ?_) (fun g5_1 => ?_)
 ·replace e9 := ift g5_1 e9
  conv => whnf
  refine cond_t g5_1 ?_
  obtain ⟨x7, q7, e9⟩ := bnd e9
  conv => whnf
  refine call_fn (ref42_Keyword_ok (s := s) q7) .nil ?_
  rintro _ K7 _ l7 ⟨rfl, rfl⟩
  conv => whnf
  refine cond_t g5_1 ?_
  conv => whnf
  refine un_not ?_
  conv => whnf
  refine cond_t g5_1 ?_
  obtain rfl := si hm
  conv => whnf
  refine EndStep.mk _ (l4.trans l7) ⟨(by rw [← (si e9)] <;> rfl), rfl⟩ (ConvH.of (.cons r0 .nil))
 ·replace e9 := iff_ g5_1 e9
  conv => whnf
  refine cond_f g5_1 ?_
  conv => whnf
  refine cond_f g5_1 ?_
  conv => whnf
  refine cond_f g5_1 ?_
  obtain rfl := si hm
  conv => whnf
  refine EndStep.mk _ l4 ⟨(by rw [← ((si e9).symm).symm] <;> rfl), rfl⟩ (ConvH.of (.cons r0 .nil))

noncomputable def ref43_exprs_L0 (rec1_0 : (S_ref43_Node → Option (Bool))) : List S_ref43_Node → Nat → Option (Fl (Bool) (Unit))
 | [], _ => some (Fl.go ())
 | e0 :: xs0, i0 =>
  (rec1_0 e0).bind fun x15 =>
  if (!x15) then
  some (Fl.ret false)
  else
  ref43_exprs_L0 rec1_0 xs0 (i0 + 1)
noncomputable def ref43_exprs (rec1_0 : (S_ref43_Node → Option (Bool))) (n : Nat) (l : (List S_ref43_Node)) (many : Int) : Option (Bool) :=
 (chk (l.length ≤ szMax)).bind fun _ =>
 (ref43_exprs_L0 rec1_0 l 0).bind fun s0 => s0.el some fun t0 =>
 some (decide ((l.length : Int) = many))
set_option maxHeartbeats 8000000 in
theorem ref43_exprs_ok {rec1_0 : (S_ref43_Node → Option (Bool))} (ihrec1_0 : ∀ {n' : S_ref43_Node} {ap0_0 : Option Addr} {cp0_0 : Nat} {K : Hp} {r : Bool} (hm : rec1_0 n' = some r) (hp0_0 : LiC S_ref43_Node.R K ap0_0 cp0_0 4 n'.Kids), Fn Tryd.prog 62 [.agg #[.int .i64 n'.Kind, str n'.Text, .slice ap0_0 n'.Kids.length cp0_0, .int .i64 n'.Line]] K [] (fun v K' H' => v = .bool r ∧ H' = [])) {n : Nat} {l : (List S_ref43_Node)} {many : Int} {ap0_0 : Option Addr} {cp0_0 : Nat} {n0 : Nat} {K : Hp} {r : Bool}
  (hm : ref43_exprs rec1_0 n l many = some r) (hp0_0 : LiC S_ref43_Node.R K ap0_0 cp0_0 4 l) (en0 : n0 = l.length) :
  Fn Tryd.prog 65 [.slice ap0_0 n0 cp0_0, .int .i64 many] K [] (fun v K' H' => v = .bool r ∧ H' = []) := by
 subst en0
 refine Fn.enter Tryd.func65 Tryd.call65 rfl fun F => ?_
 unfold ref43_exprs at hm
 conv => whnf
 refine RStep.of (len_slice rfl ?_)
 obtain ⟨hk0, hm⟩ := chkb hm
 obtain ⟨s0, hl0, hm⟩ := bnd hm
 conv => whnf
 refine code_cut (σ := (Unit)) [4, 5, 8, 9, 10, 11, 12, 13, 14, 15, 16, 17] (fun t0 => []) (fun t0 => [F]) (fun zz K1 => match zz with | t0 => s0 = Fl.go t0) ?_ ?_
 ·refine block_go rfl ?_
  conv => whnf
  refine loop_rule (σ := Nat) [4, 5, 8, 9, 10, 11, 12, 13, 14, 15, 16, 17] (fun i0 => [(8, .int .i64 (i0 : Int))]) (fun i0 => [F]) (fun zz K1 => match zz with | i0 => ref43_exprs_L0 rec1_0 (l.drop i0) i0 = some s0) (fun zz => l.length - zz) (0) rfl ⟨rfl, trivial⟩ (ConvH.of (.cons r0 .nil)) hl0 ?_
  clear hl0
  rintro i0 Kb0 lk0 hl0 j0
  conv at hl0 => whnf
  conv => whnf
  refine cond_go rfl ?_
  conv => whnf
  refine cond_s (fun w0 => ?_) (fun w0 => ?_)
  ·obtain ⟨e0, hx0, hd0⟩ := ltx w0
   rw [hd0, ref43_exprs_L0.eq_2] at hl0
   conv => whnf
   refine block_go rfl ?_
   conv => whnf
   refine RStep.ofN (index_addr rfl rfl (hasR (LiC.mono S_ref43_Node.R_ok lk0 hp0_0).rd hx0) (nn _) (lt_ofN hx0) ?_)
   obtain ⟨ss14, cc14, hr14, hc14, hR14⟩ := LiR.get (LiC.mono S_ref43_Node.R_ok lk0 hp0_0).rd hx0
   obtain ⟨a14_0, c14_0, rfl, h14_0⟩ := S_ref43_Node.out hR14
   conv => whnf
   refine RStep.of (load_rd_agg i0 _ hr14 rfl hc14 rfl ?_)
   obtain ⟨x15, q15, hl0⟩ := bnd hl0
   conv => whnf
   refine call_fn (ihrec1_0 (n' := e0) q15 h14_0) .nil ?_
   rintro _ K15 _ l15 ⟨rfl, rfl⟩
   conv => whnf
   refine un_not ?_
   conv => whnf
   refine cond_go rfl ?_
   conv => whnf
   refine cond_s (fun w16 => ?_) (fun w16 => ?_)
   ·replace hl0 := ift (not_t (ni_t w16)) hl0
    obtain rfl := si hl0
    replace hm := elr hm
    obtain rfl := si hm
    conv => whnf
    refine EndStep.mk _ (lk0.trans l15) ⟨rfl, rfl⟩ (ConvH.of (.cons r0 .nil))
   ·replace hl0 := iff_ (not_f (ni_f w16)) hl0
    conv => whnf
    refine int_in (cntz hx0 hk0) ?_
    conv => whnf
    refine RoundStep.mk (i0 + 1) ⟨rfl, trivial⟩ (by repeat (first | exact trivial | refine And.intro rfl ?_)) (ConvH.of (.cons r0 .nil)) (lk0.trans l15) (ltm hx0) hl0
  ·rw [lty w0, ref43_exprs_L0.eq_1] at hl0
   conv => whnf
   refine cond_T ?_
   conv => whnf
   refine MeetStep.mk (()) trivial (by repeat (first | exact trivial | refine And.intro rfl ?_)) (ConvH.of (.cons r0 .nil)) lk0 (si hl0).symm
 ·rintro t0 Kt0 lt0 rfl j0
  replace hm := elg hm
  conv => whnf
  refine RStep.of (len_slice rfl ?_)
  conv => whnf
  refine eq_int ?_
  obtain rfl := si hm
  conv => whnf
  refine EndStep.mk _ lt0 ⟨rfl, rfl⟩ (ConvH.of (.cons r0 .nil))

noncomputable def ref43_expression : Nat → S_ref43_Node → Option (Bool)
 | 0, _ => none
 | n + 1, n' =>
  if decide (n'.Kind = 13) then
  (if decide (n'.Text = ([] : Str)) then (ref43_exprs (ref43_expression n) n n'.Kids 2).bind fun x17 =>
  some x17 else some false).bind fun x18 =>
  some x18
  else
  if decide (n'.Kind = 14) then
  (if decide (n'.Text = ([] : Str)) then (ref43_exprs (ref43_expression n) n n'.Kids 2).bind fun x17 =>
  some x17 else some false).bind fun x18 =>
  some x18
  else
  if decide (n'.Kind = 17) then
  (if decide (n'.Text = ([] : Str)) then (ref43_exprs (ref43_expression n) n n'.Kids 2).bind fun x17 =>
  some x17 else some false).bind fun x18 =>
  some x18
  else
  if decide (n'.Kind = 18) then
  (if decide (n'.Text = ([] : Str)) then (ref43_exprs (ref43_expression n) n n'.Kids 2).bind fun x17 =>
  some x17 else some false).bind fun x18 =>
  some x18
  else
  if decide (n'.Kind = 19) then
  (if decide (n'.Text = ([] : Str)) then (ref43_exprs (ref43_expression n) n n'.Kids 2).bind fun x17 =>
  some x17 else some false).bind fun x18 =>
  some x18
  else
  if decide (n'.Kind = 15) then
  (if decide (n'.Text = ([] : Str)) then (ref43_exprs (ref43_expression n) n n'.Kids 1).bind fun x27 =>
  some x27 else some false).bind fun x28 =>
  some x28
  else
  if decide (n'.Kind = 16) then
  (ref43_compares n'.Text).bind fun x33 =>
  (if x33 then (ref43_exprs (ref43_expression n) n n'.Kids 2).bind fun x37 =>
  some x37 else some false).bind fun x38 =>
  some x38
  else
  if decide (n'.Kind = 20) then
  (ref43_token n n'.Text 2).bind fun x43 =>
  some (x43 && decide ((n'.Kids.length : Int) = 0))
  else
  if decide (n'.Kind = 21) then
  (ref43_printable n'.Text).bind fun x54 =>
  some (x54 && decide ((n'.Kids.length : Int) = 0))
  else
  if decide (n'.Kind = 22) then
  some ((decide (n'.Text = ([116, 114, 117, 101] : Str)) || decide (n'.Text = ([102, 97, 108, 115, 101] : Str))) && decide ((n'.Kids.length : Int) = 0))
  else
  if decide (n'.Kind = 23) then
  (ref43_named n n'.Text).bind fun x81 =>
  some (x81 && decide ((n'.Kids.length : Int) = 0))
  else
  if decide (n'.Kind = 24) then
  (ref43_named n n'.Text).bind fun x92 =>
  (if x92 then (ref43_exprs (ref43_expression n) n n'.Kids (n'.Kids.length : Int)).bind fun x99 =>
  some x99 else some false).bind fun x100 =>
  some x100
  else
  some false
set_option maxHeartbeats 8000000 in
theorem ref43_expression_ok : ∀ {n : Nat} {n' : S_ref43_Node} {ap0_0 : Option Addr} {cp0_0 : Nat} {K : Hp} {r : Bool}
  (hm : ref43_expression n n' = some r) (hp0_0 : LiC S_ref43_Node.R K ap0_0 cp0_0 4 n'.Kids),
  Fn Tryd.prog 62 [.agg #[.int .i64 n'.Kind, str n'.Text, .slice ap0_0 n'.Kids.length cp0_0, .int .i64 n'.Line]] K [] (fun v K' H' => v = .bool r ∧ H' = []) := by
 intro n
 induction n with
 | zero =>
  intro n' ap0_0 cp0_0 K r hm hp0_0
  rw [ref43_expression.eq_1] at hm; cases hm
 | succ n ih =>
  intro n' ap0_0 cp0_0 K r hm hp0_0
  refine Fn.enter Tryd.func62 Tryd.call62 rfl fun F => ?_
  rw [ref43_expression.eq_2] at hm
  conv => whnf
  refine box_rule ?_
  intro b1
  conv => whnf
  refine field_addr rfl ?_
  conv => whnf
  refine RStep.of (load1_s r0 rfl rfl ?_)
  conv => whnf
  refine block_go rfl ?_
  conv => whnf
  refine eq_int ?_
  conv => whnf
  refine cond_go rfl ?_
  conv => whnf
  refine cond_s (fun w5 => ?_) (fun w5 => ?_)
  ·replace hm := ift w5 hm
   conv => whnf
   refine cond_go rfl ?_
   conv => whnf
   refine cond_t w5 ?_
   conv => whnf
   refine field_addr rfl ?_
   conv => whnf
   refine RStep.of (load1_s r0 rfl rfl ?_)
   conv => whnf
   refine eq_str ?_
   obtain ⟨x18, e18, hm⟩ := bnd hm
   conv => whnf
   refine cond_s (fun g14_7 => ?_) (fun g14_7 => ?_)
   ·replace e18 := ift g14_7 e18
    conv => whnf
    refine field_addr rfl ?_
    conv => whnf
    refine cond_t g14_7 ?_
    conv => whnf
    refine RStep.of (load1_s r0 rfl rfl ?_)
    conv => whnf
    refine cond_t g14_7 ?_
    obtain ⟨x17, q17, e18⟩ := bnd e18
    conv => whnf
    refine call_fn (ref43_exprs_ok ih (many := 2) q17 hp0_0 rfl) .nil ?_
    rintro _ K17 _ l17 ⟨rfl, rfl⟩
    conv => whnf
    refine cond_t g14_7 ?_
    obtain rfl := si hm
    conv => whnf
    refine EndStep.mk _ l17 ⟨(by rw [← (si e18)] <;> rfl), rfl⟩ (ConvH.of (.cons r1 .nil))
   ·replace e18 := iff_ g14_7 e18
    conv => whnf
    refine cond_f g14_7 ?_
    conv => whnf
    refine cond_f g14_7 ?_
    conv => whnf
    refine cond_f g14_7 ?_
    obtain rfl := si hm
    conv => whnf
    refine EndStep.mk _ (Hp.Le.refl _) ⟨(by rw [← ((si e18).symm).symm] <;> rfl), rfl⟩ (ConvH.of (.cons r1 .nil))
  ·replace hm := iff_ w5 hm
   conv => whnf
   refine eq_int ?_
   conv => whnf
   refine cond_go rfl ?_
   conv => whnf
   refine cond_s (fun w5 => ?_) (fun w5 => ?_)
   ·replace hm := ift w5 hm
    conv => whnf
    refine cond_go rfl ?_
    conv => whnf
    refine cond_t w5 ?_
    conv => whnf
    refine field_addr rfl ?_
    conv => whnf
    refine RStep.of (load1_s r0 rfl rfl ?_)
    conv => whnf
    refine eq_str ?_
    obtain ⟨x18, e18, hm⟩ := bnd hm
    conv => whnf
    refine cond_s (fun g14_7 => ?_) (fun g14_7 => ?_)
    ·replace e18 := ift g14_7 e18
     conv => whnf
     refine field_addr rfl ?_
     conv => whnf
     refine cond_t g14_7 ?_
     conv => whnf
     refine RStep.of (load1_s r0 rfl rfl ?_)
     conv => whnf
     refine cond_t g14_7 ?_
     obtain ⟨x17, q17, e18⟩ := bnd e18
     conv => whnf
     refine call_fn (ref43_exprs_ok ih (many := 2) q17 hp0_0 rfl) .nil ?_
     rintro _ K17 _ l17 ⟨rfl, rfl⟩
     conv => whnf
     refine cond_t g14_7 ?_
     obtain rfl := si hm
     conv => whnf
     refine EndStep.mk _ l17 ⟨(by rw [← (si e18)] <;> rfl), rfl⟩ (ConvH.of (.cons r1 .nil))
    ·replace e18 := iff_ g14_7 e18
     conv => whnf
     refine cond_f g14_7 ?_
     conv => whnf
     refine cond_f g14_7 ?_
     conv => whnf
     refine cond_f g14_7 ?_
     obtain rfl := si hm
     conv => whnf
     refine EndStep.mk _ (Hp.Le.refl _) ⟨(by rw [← ((si e18).symm).symm] <;> rfl), rfl⟩ (ConvH.of (.cons r1 .nil))
   ·replace hm := iff_ w5 hm
    conv => whnf
    refine eq_int ?_
    conv => whnf
    refine cond_go rfl ?_
    conv => whnf
    refine cond_s (fun w5 => ?_) (fun w5 => ?_)
    ·replace hm := ift w5 hm
     conv => whnf
     refine cond_go rfl ?_
     conv => whnf
     refine cond_t w5 ?_
     conv => whnf
     refine field_addr rfl ?_
     conv => whnf
     refine RStep.of (load1_s r0 rfl rfl ?_)
     conv => whnf
     refine eq_str ?_
     obtain ⟨x18, e18, hm⟩ := bnd hm
     conv => whnf
     refine cond_s (fun g14_7 => ?_) (fun g14_7 => ?_)
     ·replace e18 := ift g14_7 e18
      conv => whnf
      refine field_addr rfl ?_
      conv => whnf
      refine cond_t g14_7 ?_
      conv => whnf
      refine RStep.of (load1_s r0 rfl rfl ?_)
      conv => whnf
      refine cond_t g14_7 ?_
      obtain ⟨x17, q17, e18⟩ := bnd e18
      conv => whnf
      refine call_fn (ref43_exprs_ok ih (many := 2) q17 hp0_0 rfl) .nil ?_
      rintro _ K17 _ l17 ⟨rfl, rfl⟩
      conv => whnf
      refine cond_t g14_7 ?_
      obtain rfl := si hm
      conv => whnf
      refine EndStep.mk _ l17 ⟨(by rw [← (si e18)] <;> rfl), rfl⟩ (ConvH.of (.cons r1 .nil))
     ·replace e18 := iff_ g14_7 e18
      conv => whnf
      refine cond_f g14_7 ?_
      conv => whnf
      refine cond_f g14_7 ?_
      conv => whnf
      refine cond_f g14_7 ?_
      obtain rfl := si hm
      conv => whnf
      refine EndStep.mk _ (Hp.Le.refl _) ⟨(by rw [← ((si e18).symm).symm] <;> rfl), rfl⟩ (ConvH.of (.cons r1 .nil))
    ·replace hm := iff_ w5 hm
     conv => whnf
     refine eq_int ?_
     conv => whnf
     refine cond_go rfl ?_
     conv => whnf
     refine cond_s (fun w5 => ?_) (fun w5 => ?_)
     ·replace hm := ift w5 hm
      conv => whnf
      refine cond_go rfl ?_
      conv => whnf
      refine cond_t w5 ?_
      conv => whnf
      refine field_addr rfl ?_
      conv => whnf
      refine RStep.of (load1_s r0 rfl rfl ?_)
      conv => whnf
      refine eq_str ?_
      obtain ⟨x18, e18, hm⟩ := bnd hm
      conv => whnf
      refine cond_s (fun g14_7 => ?_) (fun g14_7 => ?_)
      ·replace e18 := ift g14_7 e18
       conv => whnf
       refine field_addr rfl ?_
       conv => whnf
       refine cond_t g14_7 ?_
       conv => whnf
       refine RStep.of (load1_s r0 rfl rfl ?_)
       conv => whnf
       refine cond_t g14_7 ?_
       obtain ⟨x17, q17, e18⟩ := bnd e18
       conv => whnf
       refine call_fn (ref43_exprs_ok ih (many := 2) q17 hp0_0 rfl) .nil ?_
       rintro _ K17 _ l17 ⟨rfl, rfl⟩
       conv => whnf
       refine cond_t g14_7 ?_
       obtain rfl := si hm
       conv => whnf
       refine EndStep.mk _ l17 ⟨(by rw [← (si e18)] <;> rfl), rfl⟩ (ConvH.of (.cons r1 .nil))
      ·replace e18 := iff_ g14_7 e18
       conv => whnf
       refine cond_f g14_7 ?_
       conv => whnf
       refine cond_f g14_7 ?_
       conv => whnf
       refine cond_f g14_7 ?_
       obtain rfl := si hm
       conv => whnf
       refine EndStep.mk _ (Hp.Le.refl _) ⟨(by rw [← ((si e18).symm).symm] <;> rfl), rfl⟩ (ConvH.of (.cons r1 .nil))
     ·replace hm := iff_ w5 hm
      conv => whnf
      refine eq_int ?_
      conv => whnf
      refine cond_go rfl ?_
      conv => whnf
      refine cond_s (fun w5 => ?_) (fun w5 => ?_)
      ·replace hm := ift w5 hm
       conv => whnf
       refine field_addr rfl ?_
       conv => whnf
       refine RStep.of (load1_s r0 rfl rfl ?_)
       conv => whnf
       refine eq_str ?_
       obtain ⟨x18, e18, hm⟩ := bnd hm
       conv => whnf
       refine cond_s (fun g14_7 => ?_) (fun g14_7 => ?_)
       ·replace e18 := ift g14_7 e18
        conv => whnf
        refine field_addr rfl ?_
        conv => whnf
        refine cond_t g14_7 ?_
        conv => whnf
        refine RStep.of (load1_s r0 rfl rfl ?_)
        conv => whnf
        refine cond_t g14_7 ?_
        obtain ⟨x17, q17, e18⟩ := bnd e18
        conv => whnf
        refine call_fn (ref43_exprs_ok ih (many := 2) q17 hp0_0 rfl) .nil ?_
        rintro _ K17 _ l17 ⟨rfl, rfl⟩
        conv => whnf
        refine cond_t g14_7 ?_
        obtain rfl := si hm
        conv => whnf
        refine EndStep.mk _ l17 ⟨(by rw [← (si e18)] <;> rfl), rfl⟩ (ConvH.of (.cons r1 .nil))
       ·replace e18 := iff_ g14_7 e18
        conv => whnf
        refine cond_f g14_7 ?_
        conv => whnf
        refine cond_f g14_7 ?_
        conv => whnf
        refine cond_f g14_7 ?_
        obtain rfl := si hm
        conv => whnf
        refine EndStep.mk _ (Hp.Le.refl _) ⟨(by rw [← ((si e18).symm).symm] <;> rfl), rfl⟩ (ConvH.of (.cons r1 .nil))
      ·replace hm := iff_ w5 hm
       conv => whnf
       refine eq_int ?_
       conv => whnf
       refine cond_go rfl ?_
       conv => whnf
       refine cond_s (fun w19 => ?_) (fun w19 => ?_)
       ·replace hm := ift w19 hm
        conv => whnf
        refine field_addr rfl ?_
        conv => whnf
        refine RStep.of (load1_s r0 rfl rfl ?_)
        conv => whnf
        refine eq_str ?_
        obtain ⟨x28, e28, hm⟩ := bnd hm
        conv => whnf
        refine cond_s (fun g24_9 => ?_) (fun g24_9 => ?_)
        ·replace e28 := ift g24_9 e28
         conv => whnf
         refine field_addr rfl ?_
         conv => whnf
         refine cond_t g24_9 ?_
         conv => whnf
         refine RStep.of (load1_s r0 rfl rfl ?_)
         conv => whnf
         refine cond_t g24_9 ?_
         obtain ⟨x27, q27, e28⟩ := bnd e28
         conv => whnf
         refine call_fn (ref43_exprs_ok ih (many := 1) q27 hp0_0 rfl) .nil ?_
         rintro _ K27 _ l27 ⟨rfl, rfl⟩
         conv => whnf
         refine cond_t g24_9 ?_
         obtain rfl := si hm
         conv => whnf
         refine EndStep.mk _ l27 ⟨(by rw [← (si e28)] <;> rfl), rfl⟩ (ConvH.of (.cons r1 .nil))
        ·replace e28 := iff_ g24_9 e28
         conv => whnf
         refine cond_f g24_9 ?_
         conv => whnf
         refine cond_f g24_9 ?_
         conv => whnf
         refine cond_f g24_9 ?_
         obtain rfl := si hm
         conv => whnf
         refine EndStep.mk _ (Hp.Le.refl _) ⟨(by rw [← ((si e28).symm).symm] <;> rfl), rfl⟩ (ConvH.of (.cons r1 .nil))
       ·replace hm := iff_ w19 hm
        conv => whnf
        refine eq_int ?_
        conv => whnf
        refine cond_go rfl ?_
        conv => whnf
        refine cond_s (fun w29 => ?_) (fun w29 => ?_)
        ·replace hm := ift w29 hm
         conv => whnf
         refine field_addr rfl ?_
         conv => whnf
         refine RStep.of (load1_s r0 rfl rfl ?_)
         obtain ⟨x33, q33, hm⟩ := bnd hm
         conv => whnf
         refine call_fn (ref43_compares_ok (s := n'.Text) q33) .nil ?_
         rintro _ K33 _ l33 ⟨rfl, rfl⟩
         obtain ⟨x38, e38, hm⟩ := bnd hm
         conv => whnf
         refine cond_s (fun g34_11 => ?_) (fun g34_11 => ?_)
         ·replace e38 := ift g34_11 e38
          conv => whnf
          refine field_addr rfl ?_
          conv => whnf
          refine cond_t g34_11 ?_
          conv => whnf
          refine RStep.of (load1_s r0 rfl rfl ?_)
          conv => whnf
          refine cond_t g34_11 ?_
          obtain ⟨x37, q37, e38⟩ := bnd e38
          conv => whnf
          refine call_fn (ref43_exprs_ok ih (many := 2) q37 (LiC.mono S_ref43_Node.R_ok l33 hp0_0) rfl) .nil ?_
          rintro _ K37 _ l37 ⟨rfl, rfl⟩
          conv => whnf
          refine cond_t g34_11 ?_
          obtain rfl := si hm
          conv => whnf
          refine EndStep.mk _ (l33.trans l37) ⟨(by rw [← (si e38)] <;> rfl), rfl⟩ (ConvH.of (.cons r1 .nil))
         ·replace e38 := iff_ g34_11 e38
          conv => whnf
          refine cond_f g34_11 ?_
          conv => whnf
          refine cond_f g34_11 ?_
          conv => whnf
          refine cond_f g34_11 ?_
          obtain rfl := si hm
          conv => whnf
          refine EndStep.mk _ l33 ⟨(by rw [← ((si e38).symm).symm] <;> rfl), rfl⟩ (ConvH.of (.cons r1 .nil))
        ·replace hm := iff_ w29 hm
         conv => whnf
         refine eq_int ?_
         conv => whnf
         refine cond_go rfl ?_
         conv => whnf
         refine cond_s (fun w39 => ?_) (fun w39 => ?_)
         ·replace hm := ift w39 hm
          conv => whnf
          refine field_addr rfl ?_
          conv => whnf
          refine RStep.of (load1_s r0 rfl rfl ?_)
          obtain ⟨x43, q43, hm⟩ := bnd hm
          conv => whnf
          refine call_fn (ref43_token_ok (s := n'.Text) (kind := 2) q43) .nil ?_
          rintro _ K43 _ l43 ⟨rfl, rfl⟩
          conv => whnf
          refine cond_s (fun g44_13 => ?_) (fun g44_13 => ?_)
          ·conv => whnf
           refine field_addr rfl ?_
           conv => whnf
           refine cond_t g44_13 ?_
           conv => whnf
           refine RStep.of (load1_s r0 rfl rfl ?_)
           conv => whnf
           refine cond_t g44_13 ?_
           conv => whnf
           refine RStep.of (len_slice rfl ?_)
           conv => whnf
           refine cond_t g44_13 ?_
           conv => whnf
           refine eq_int ?_
           conv => whnf
           refine cond_t g44_13 ?_
           obtain rfl := si hm
           conv => whnf
           refine EndStep.mk _ l43 ⟨(by rw [← (and_e (b := decide ((n'.Kids.length : Int) = 0)) g44_13)] <;> rfl), rfl⟩ (ConvH.of (.cons r1 .nil))
          ·conv => whnf
           refine cond_f g44_13 ?_
           conv => whnf
           refine cond_f g44_13 ?_
           conv => whnf
           refine cond_f g44_13 ?_
           conv => whnf
           refine cond_f g44_13 ?_
           obtain rfl := si hm
           conv => whnf
           refine EndStep.mk _ l43 ⟨(by rw [← ((and_f g44_13)).symm] <;> rfl), rfl⟩ (ConvH.of (.cons r1 .nil))
         ·replace hm := iff_ w39 hm
          conv => whnf
          refine eq_int ?_
          conv => whnf
          refine cond_go rfl ?_
          conv => whnf
          refine cond_s (fun w50 => ?_) (fun w50 => ?_)
          ·replace hm := ift w50 hm
           conv => whnf
           refine field_addr rfl ?_
           conv => whnf
           refine RStep.of (load1_s r0 rfl rfl ?_)
           obtain ⟨x54, q54, hm⟩ := bnd hm
           conv => whnf
           refine call_fn (ref43_printable_ok (s := n'.Text) q54) .nil ?_
           rintro _ K54 _ l54 ⟨rfl, rfl⟩
           conv => whnf
           refine cond_s (fun g55_15 => ?_) (fun g55_15 => ?_)
           ·conv => whnf
            refine field_addr rfl ?_
            conv => whnf
            refine cond_t g55_15 ?_
            conv => whnf
            refine RStep.of (load1_s r0 rfl rfl ?_)
            conv => whnf
            refine cond_t g55_15 ?_
            conv => whnf
            refine RStep.of (len_slice rfl ?_)
            conv => whnf
            refine cond_t g55_15 ?_
            conv => whnf
            refine eq_int ?_
            conv => whnf
            refine cond_t g55_15 ?_
            obtain rfl := si hm
            conv => whnf
            refine EndStep.mk _ l54 ⟨(by rw [← (and_e (b := decide ((n'.Kids.length : Int) = 0)) g55_15)] <;> rfl), rfl⟩ (ConvH.of (.cons r1 .nil))
           ·conv => whnf
            refine cond_f g55_15 ?_
            conv => whnf
            refine cond_f g55_15 ?_
            conv => whnf
            refine cond_f g55_15 ?_
            conv => whnf
            refine cond_f g55_15 ?_
            obtain rfl := si hm
            conv => whnf
            refine EndStep.mk _ l54 ⟨(by rw [← ((and_f g55_15)).symm] <;> rfl), rfl⟩ (ConvH.of (.cons r1 .nil))
          ·replace hm := iff_ w50 hm
           conv => whnf
           refine eq_int ?_
           conv => whnf
           refine cond_go rfl ?_
           conv => whnf
           refine cond_s (fun w61 => ?_) (fun w61 => ?_)
           ·replace hm := ift w61 hm
            conv => whnf
            refine field_addr rfl ?_
            conv => whnf
            refine RStep.of (load1_s r0 rfl rfl ?_)
            conv => whnf
            refine eq_str ?_
            conv => whnf
            refine cond_s (fun g66_17 => ?_) (fun g66_17 => ?_)
            ·conv => whnf
             refine cond_t g66_17 ?_
             conv => whnf
             refine cond_t g66_17 ?_
             conv => whnf
             refine cond_t g66_17 ?_
             conv => whnf
             refine cond_T ?_
             conv => whnf
             refine field_addr rfl ?_
             conv => whnf
             refine cond_T ?_
             conv => whnf
             refine RStep.of (load1_s r0 rfl rfl ?_)
             conv => whnf
             refine cond_T ?_
             conv => whnf
             refine RStep.of (len_slice rfl ?_)
             conv => whnf
             refine cond_T ?_
             conv => whnf
             refine eq_int ?_
             conv => whnf
             refine cond_T ?_
             obtain rfl := si hm
             conv => whnf
             refine EndStep.mk _ (Hp.Le.refl _) ⟨(by rw [← (and_e (b := decide ((n'.Kids.length : Int) = 0)) (or_t g66_17))] <;> rfl), rfl⟩ (ConvH.of (.cons r1 .nil))
            ·conv => whnf
             refine field_addr rfl ?_
             conv => whnf
             refine cond_f g66_17 ?_
             conv => whnf
             refine RStep.of (load1_s r0 rfl rfl ?_)
             conv => whnf
             refine cond_f g66_17 ?_
             conv => whnf
             refine eq_str ?_
             conv => whnf
             refine cond_f g66_17 ?_
             conv => whnf
             refine cond_s (fun g71_17 => ?_) (fun g71_17 => ?_)
             ·conv => whnf
              refine field_addr rfl ?_
              conv => whnf
              refine cond_t g71_17 ?_
              conv => whnf
              refine RStep.of (load1_s r0 rfl rfl ?_)
              conv => whnf
              refine cond_t g71_17 ?_
              conv => whnf
              refine RStep.of (len_slice rfl ?_)
              conv => whnf
              refine cond_t g71_17 ?_
              conv => whnf
              refine eq_int ?_
              conv => whnf
              refine cond_t g71_17 ?_
              obtain rfl := si hm
              conv => whnf
              refine EndStep.mk _ (Hp.Le.refl _) ⟨(by rw [← (and_e (b := decide ((n'.Kids.length : Int) = 0)) (or_u g66_17 g71_17))] <;> rfl), rfl⟩ (ConvH.of (.cons r1 .nil))
             ·conv => whnf
              refine cond_f g71_17 ?_
              conv => whnf
              refine cond_f g71_17 ?_
              conv => whnf
              refine cond_f g71_17 ?_
              conv => whnf
              refine cond_f g71_17 ?_
              obtain rfl := si hm
              conv => whnf
              refine EndStep.mk _ (Hp.Le.refl _) ⟨(by rw [← ((and_f (or_f g66_17 g71_17))).symm] <;> rfl), rfl⟩ (ConvH.of (.cons r1 .nil))
           ·replace hm := iff_ w61 hm
            conv => whnf
            refine eq_int ?_
            conv => whnf
            refine cond_go rfl ?_
            conv => whnf
            refine cond_s (fun w77 => ?_) (fun w77 => ?_)
            ·replace hm := ift w77 hm
             conv => whnf
             refine field_addr rfl ?_
             conv => whnf
             refine RStep.of (load1_s r0 rfl rfl ?_)
             obtain ⟨x81, q81, hm⟩ := bnd hm
             conv => whnf
             refine call_fn (ref43_named_ok (s := n'.Text) q81) .nil ?_
             rintro _ K81 _ l81 ⟨rfl, rfl⟩
             conv => whnf
             refine cond_s (fun g82_19 => ?_) (fun g82_19 => ?_)
             ·conv => whnf
              refine field_addr rfl ?_
              conv => whnf
              refine cond_t g82_19 ?_
              conv => whnf
              refine RStep.of (load1_s r0 rfl rfl ?_)
              conv => whnf
              refine cond_t g82_19 ?_
              conv => whnf
              refine RStep.of (len_slice rfl ?_)
              conv => whnf
              refine cond_t g82_19 ?_
              conv => whnf
              refine eq_int ?_
              conv => whnf
              refine cond_t g82_19 ?_
              obtain rfl := si hm
              conv => whnf
              refine EndStep.mk _ l81 ⟨(by rw [← (and_e (b := decide ((n'.Kids.length : Int) = 0)) g82_19)] <;> rfl), rfl⟩ (ConvH.of (.cons r1 .nil))
             ·conv => whnf
              refine cond_f g82_19 ?_
              conv => whnf
              refine cond_f g82_19 ?_
              conv => whnf
              refine cond_f g82_19 ?_
              conv => whnf
              refine cond_f g82_19 ?_
              obtain rfl := si hm
              conv => whnf
              refine EndStep.mk _ l81 ⟨(by rw [← ((and_f g82_19)).symm] <;> rfl), rfl⟩ (ConvH.of (.cons r1 .nil))
            ·replace hm := iff_ w77 hm
             conv => whnf
             refine eq_int ?_
             conv => whnf
             refine cond_go rfl ?_
             conv => whnf
             refine cond_s (fun w88 => ?_) (fun w88 => ?_)
             ·replace hm := ift w88 hm
              conv => whnf
              refine field_addr rfl ?_
              conv => whnf
              refine RStep.of (load1_s r0 rfl rfl ?_)
              obtain ⟨x92, q92, hm⟩ := bnd hm
              conv => whnf
              refine call_fn (ref43_named_ok (s := n'.Text) q92) .nil ?_
              rintro _ K92 _ l92 ⟨rfl, rfl⟩
              obtain ⟨x100, e100, hm⟩ := bnd hm
              conv => whnf
              refine cond_s (fun g93_21 => ?_) (fun g93_21 => ?_)
              ·replace e100 := ift g93_21 e100
               conv => whnf
               refine field_addr rfl ?_
               conv => whnf
               refine cond_t g93_21 ?_
               conv => whnf
               refine RStep.of (load1_s r0 rfl rfl ?_)
               conv => whnf
               refine cond_t g93_21 ?_
               conv => whnf
               refine field_addr rfl ?_
               conv => whnf
               refine cond_t g93_21 ?_
               conv => whnf
               refine RStep.of (load1_s r0 rfl rfl ?_)
               conv => whnf
               refine cond_t g93_21 ?_
               conv => whnf
               refine RStep.of (len_slice rfl ?_)
               conv => whnf
               refine cond_t g93_21 ?_
               obtain ⟨x99, q99, e100⟩ := bnd e100
               conv => whnf
               refine call_fn (ref43_exprs_ok ih (many := (n'.Kids.length : Int)) q99 (LiC.mono S_ref43_Node.R_ok l92 hp0_0) rfl) .nil ?_
               rintro _ K99 _ l99 ⟨rfl, rfl⟩
               conv => whnf
               refine cond_t g93_21 ?_
               obtain rfl := si hm
               conv => whnf
               refine EndStep.mk _ (l92.trans l99) ⟨(by rw [← (si e100)] <;> rfl), rfl⟩ (ConvH.of (.cons r1 .nil))
              ·replace e100 := iff_ g93_21 e100
               conv => whnf
               refine cond_f g93_21 ?_
               conv => whnf
               refine cond_f g93_21 ?_
               conv => whnf
               refine cond_f g93_21 ?_
               conv => whnf
               refine cond_f g93_21 ?_
               conv => whnf
               refine cond_f g93_21 ?_
               conv => whnf
               refine cond_f g93_21 ?_
               obtain rfl := si hm
               conv => whnf
               refine EndStep.mk _ l92 ⟨(by rw [← ((si e100).symm).symm] <;> rfl), rfl⟩ (ConvH.of (.cons r1 .nil))
             ·replace hm := iff_ w88 hm
              obtain rfl := si hm
              conv => whnf
              refine EndStep.mk _ (Hp.Le.refl _) ⟨rfl, rfl⟩ (ConvH.of (.cons r1 .nil))

noncomputable def ref43_blocks (rec2_0 : ((List S_ref43_Node) → Option (Bool))) (n : Nat) (n' : S_ref43_Node) : Option (Bool) :=
 (if (decide (n'.Kind = 12) && decide (n'.Text = ([] : Str))) then (rec2_0 n'.Kids).bind fun x14 =>
 some x14 else some false).bind fun x15 =>
 some x15
set_option maxHeartbeats 8000000 in
theorem ref43_blocks_ok {rec2_0 : ((List S_ref43_Node) → Option (Bool))} (ihrec2_0 : ∀ {l : (List S_ref43_Node)} {ap0_0 : Option Addr} {cp0_0 : Nat} {n0 : Nat} {K : Hp} {r : Bool} (hm : rec2_0 l = some r) (hp0_0 : LiC S_ref43_Node.R K ap0_0 cp0_0 4 l) (en0 : n0 = l.length), Fn Tryd.prog 35 [.slice ap0_0 n0 cp0_0] K [] (fun v K' H' => v = .bool r ∧ H' = [])) {n : Nat} {n' : S_ref43_Node} {ap0_0 : Option Addr} {cp0_0 : Nat} {K : Hp} {r : Bool}
  (hm : ref43_blocks rec2_0 n n' = some r) (hp0_0 : LiC S_ref43_Node.R K ap0_0 cp0_0 4 n'.Kids) :
  Fn Tryd.prog 63 [.agg #[.int .i64 n'.Kind, str n'.Text, .slice ap0_0 n'.Kids.length cp0_0, .int .i64 n'.Line]] K [] (fun v K' H' => v = .bool r ∧ H' = []) := by
 refine Fn.enter Tryd.func63 Tryd.call63 rfl fun F => ?_
 unfold ref43_blocks at hm
 conv => whnf
 refine box_rule ?_
 intro b1
 conv => whnf
 refine field_addr rfl ?_
 conv => whnf
 refine RStep.of (load1_s r0 rfl rfl ?_)
 conv => whnf
 refine eq_int ?_
 conv => whnf
 refine cond_s (fun g6_1 => ?_) (fun g6_1 => ?_)
 ·conv => whnf
  refine field_addr rfl ?_
  conv => whnf
  refine cond_t g6_1 ?_
  conv => whnf
  refine RStep.of (load1_s r0 rfl rfl ?_)
  conv => whnf
  refine cond_t g6_1 ?_
  conv => whnf
  refine eq_str ?_
  conv => whnf
  refine cond_t g6_1 ?_
  obtain ⟨x15, e15, hm⟩ := bnd hm
  conv => whnf
  refine cond_s (fun g11_1 => ?_) (fun g11_1 => ?_)
  ·replace e15 := ift (and_t g6_1 g11_1) e15
   conv => whnf
   refine field_addr rfl ?_
   conv => whnf
   refine cond_t g11_1 ?_
   conv => whnf
   refine RStep.of (load1_s r0 rfl rfl ?_)
   conv => whnf
   refine cond_t g11_1 ?_
   obtain ⟨x14, q14, e15⟩ := bnd e15
   conv => whnf
   refine call_fn (ihrec2_0 q14 hp0_0 rfl) .nil ?_
   rintro _ K14 _ l14 ⟨rfl, rfl⟩
   conv => whnf
   refine cond_t g11_1 ?_
   obtain rfl := si hm
   conv => whnf
   refine EndStep.mk _ l14 ⟨(by rw [← (si e15)] <;> rfl), rfl⟩ (ConvH.of (.cons r1 .nil))
  ·replace e15 := iff_ (and_g g6_1 g11_1) e15
   conv => whnf
   refine cond_f g11_1 ?_
   conv => whnf
   refine cond_f g11_1 ?_
   conv => whnf
   refine cond_f g11_1 ?_
   obtain rfl := si hm
   conv => whnf
   refine EndStep.mk _ (Hp.Le.refl _) ⟨(by rw [← ((si e15).symm).symm] <;> rfl), rfl⟩ (ConvH.of (.cons r1 .nil))
 ·conv => whnf
  refine cond_f g6_1 ?_
  conv => whnf
  refine cond_f g6_1 ?_
  conv => whnf
  refine cond_f g6_1 ?_
  obtain ⟨x15, e15, hm⟩ := bnd hm
  replace e15 := iff_ (and_f g6_1) e15
  conv => whnf
  refine cond_F ?_
  conv => whnf
  refine cond_F ?_
  conv => whnf
  refine cond_F ?_
  conv => whnf
  refine cond_F ?_
  obtain rfl := si hm
  conv => whnf
  refine EndStep.mk _ (Hp.Le.refl _) ⟨(by rw [← ((si e15).symm).symm] <;> rfl), rfl⟩ (ConvH.of (.cons r1 .nil))

noncomputable def ref43_stands (rec2_0 : ((List S_ref43_Node) → Option (Bool))) : Nat → S_ref43_Node → Option (Bool)
 | 0, _ => none
 | n + 1, n' =>
  if decide (n'.Kind = 2) then
  (if ((decide (n'.Text ≠ ([] : Str)) || decide ((n'.Kids.length : Int) < 2)) || decide ((n'.Kids.length : Int) > 3)) then some true else (ix n'.Kids 0).bind fun x25 =>
  (ref43_expression n x25).bind fun x27 =>
  some (!x27)).bind fun x29 =>
  (if x29 then some true else (ix n'.Kids 1).bind fun x33 =>
  (ref43_blocks rec2_0 n x33).bind fun x35 =>
  some (!x35)).bind fun x37 =>
  if x37 then
  some false
  else
  (if decide ((n'.Kids.length : Int) = 2) then some true else (ix n'.Kids 2).bind fun x43 =>
  (ref43_blocks rec2_0 n x43).bind fun x45 =>
  some x45).bind fun x46 =>
  if x46 then
  some true
  else
  (ix n'.Kids 2).bind fun x50 =>
  (if decide (x50.Kind = 2) then (ix n'.Kids 2).bind fun x57 =>
  ((ref43_stands rec2_0 n) x57).bind fun x59 =>
  some x59 else some false).bind fun x60 =>
  some x60
  else
  if decide (n'.Kind = 3) then
  (ref43_named n n'.Text).bind fun x66 =>
  (if x66 then (ref43_exprs (ref43_expression n) n n'.Kids 1).bind fun x70 =>
  some x70 else some false).bind fun x71 =>
  some x71
  else
  if decide (n'.Kind = 4) then
  (if (decide (n'.Text = ([112, 97, 116, 104] : Str)) || decide (n'.Text = ([113, 117, 101, 114, 121] : Str))) then (ref43_exprs (ref43_expression n) n n'.Kids 1).bind fun x85 =>
  some x85 else some false).bind fun x86 =>
  some x86
  else
  if decide (n'.Kind = 5) then
  (ref43_printable n'.Text).bind fun x91 =>
  (if x91 then (ref43_exprs (ref43_expression n) n n'.Kids 1).bind fun x95 =>
  some x95 else some false).bind fun x96 =>
  some x96
  else
  if decide (n'.Kind = 6) then
  (ref43_printable n'.Text).bind fun x101 =>
  some (x101 && decide ((n'.Kids.length : Int) = 0))
  else
  if decide (n'.Kind = 7) then
  (if decide (n'.Text = ([] : Str)) then (ref43_exprs (ref43_expression n) n n'.Kids 1).bind fun x118 =>
  some x118 else some false).bind fun x119 =>
  some x119
  else
  if decide (n'.Kind = 8) then
  (if decide (n'.Text = ([] : Str)) then (ref43_exprs (ref43_expression n) n n'.Kids 1).bind fun x118 =>
  some x118 else some false).bind fun x119 =>
  some x119
  else
  if decide (n'.Kind = 9) then
  (if decide (n'.Text = ([] : Str)) then (ref43_exprs (ref43_expression n) n n'.Kids 1).bind fun x118 =>
  some x118 else some false).bind fun x119 =>
  some x119
  else
  if decide (n'.Kind = 10) then
  some (decide (n'.Text = ([] : Str)) && decide ((n'.Kids.length : Int) = 0))
  else
  if decide (n'.Kind = 11) then
  some (decide (n'.Text = ([] : Str)) && decide ((n'.Kids.length : Int) = 0))
  else
  some false
set_option maxHeartbeats 8000000 in
theorem ref43_stands_ok {rec2_0 : ((List S_ref43_Node) → Option (Bool))} (ihrec2_0 : ∀ {l : (List S_ref43_Node)} {ap0_0 : Option Addr} {cp0_0 : Nat} {n0 : Nat} {K : Hp} {r : Bool} (hm : rec2_0 l = some r) (hp0_0 : LiC S_ref43_Node.R K ap0_0 cp0_0 4 l) (en0 : n0 = l.length), Fn Tryd.prog 35 [.slice ap0_0 n0 cp0_0] K [] (fun v K' H' => v = .bool r ∧ H' = [])) : ∀ {n : Nat} {n' : S_ref43_Node} {ap0_0 : Option Addr} {cp0_0 : Nat} {K : Hp} {r : Bool}
  (hm : ref43_stands rec2_0 n n' = some r) (hp0_0 : LiC S_ref43_Node.R K ap0_0 cp0_0 4 n'.Kids),
  Fn Tryd.prog 49 [.agg #[.int .i64 n'.Kind, str n'.Text, .slice ap0_0 n'.Kids.length cp0_0, .int .i64 n'.Line]] K [] (fun v K' H' => v = .bool r ∧ H' = []) := by
 intro n
 induction n with
 | zero =>
  intro n' ap0_0 cp0_0 K r hm hp0_0
  rw [ref43_stands.eq_1] at hm; cases hm
 | succ n ih =>
  intro n' ap0_0 cp0_0 K r hm hp0_0
  refine Fn.enter Tryd.func49 Tryd.call49 rfl fun F => ?_
  rw [ref43_stands.eq_2] at hm
  conv => whnf
  refine box_rule ?_
  intro b1
  conv => whnf
  refine field_addr rfl ?_
  conv => whnf
  refine RStep.of (load1_s r0 rfl rfl ?_)
  conv => whnf
  refine block_go rfl ?_
  conv => whnf
  refine eq_int ?_
  conv => whnf
  refine cond_go rfl ?_
  conv => whnf
  refine cond_s (fun w6 => ?_) (fun w6 => ?_)
  ·replace hm := ift w6 hm
   conv => whnf
   refine field_addr rfl ?_
   conv => whnf
   refine RStep.of (load1_s r0 rfl rfl ?_)
   conv => whnf
   refine RStep.of (len_slice rfl ?_)
   conv => whnf
   refine field_addr rfl ?_
   conv => whnf
   refine RStep.of (load1_s r0 rfl rfl ?_)
   conv => whnf
   refine neq_str ?_
   conv => whnf
   refine cond_s (fun g14_4 => ?_) (fun g14_4 => ?_)
   ·conv => whnf
    refine cond_t g14_4 ?_
    conv => whnf
    refine cond_t g14_4 ?_
    conv => whnf
    refine cond_T ?_
    conv => whnf
    refine cond_T ?_
    conv => whnf
    refine cond_T ?_
    obtain ⟨x29, e29, hm⟩ := bnd hm
    replace e29 := ift (or_t (or_t g14_4)) e29
    conv => whnf
    refine cond_T ?_
    conv => whnf
    refine cond_T ?_
    conv => whnf
    refine cond_T ?_
    conv => whnf
    refine cond_T ?_
    conv => whnf
    refine cond_T ?_
    conv => whnf
    refine cond_T ?_
    conv => whnf
    refine cond_T ?_
    obtain ⟨x37, e37, hm⟩ := bnd hm
    replace e37 := ift (si e29).symm e37
    conv => whnf
    refine cond_T ?_
    conv => whnf
    refine cond_T ?_
    conv => whnf
    refine cond_T ?_
    conv => whnf
    refine cond_T ?_
    conv => whnf
    refine cond_T ?_
    conv => whnf
    refine cond_T ?_
    conv => whnf
    refine cond_T ?_
    conv => whnf
    refine cond_go rfl ?_
    conv => whnf
    refine cond_T ?_
    replace hm := ift (si e37).symm hm
    obtain rfl := si hm
    conv => whnf
    refine EndStep.mk _ (Hp.Le.refl _) ⟨rfl, rfl⟩ (ConvH.of (.cons r1 .nil))
   ·conv => whnf
    refine cond_f g14_4 ?_
    conv => whnf
    refine cond_f g14_4 ?_
    conv => whnf
    refine cond_s (fun g18_4 => ?_) (fun g18_4 => ?_)
    ·conv => whnf
     refine cond_t g18_4 ?_
     conv => whnf
     refine cond_t g18_4 ?_
     obtain ⟨x29, e29, hm⟩ := bnd hm
     replace e29 := ift (or_t (or_u g14_4 g18_4)) e29
     conv => whnf
     refine cond_T ?_
     conv => whnf
     refine cond_T ?_
     conv => whnf
     refine cond_T ?_
     conv => whnf
     refine cond_T ?_
     conv => whnf
     refine cond_T ?_
     conv => whnf
     refine cond_T ?_
     conv => whnf
     refine cond_T ?_
     obtain ⟨x37, e37, hm⟩ := bnd hm
     replace e37 := ift (si e29).symm e37
     conv => whnf
     refine cond_T ?_
     conv => whnf
     refine cond_T ?_
     conv => whnf
     refine cond_T ?_
     conv => whnf
     refine cond_T ?_
     conv => whnf
     refine cond_T ?_
     conv => whnf
     refine cond_T ?_
     conv => whnf
     refine cond_T ?_
     conv => whnf
     refine cond_go rfl ?_
     conv => whnf
     refine cond_T ?_
     replace hm := ift (si e37).symm hm
     obtain rfl := si hm
     conv => whnf
     refine EndStep.mk _ (Hp.Le.refl _) ⟨rfl, rfl⟩ (ConvH.of (.cons r1 .nil))
    ·conv => whnf
     refine cond_f g18_4 ?_
     conv => whnf
     refine cond_f g18_4 ?_
     obtain ⟨x29, e29, hm⟩ := bnd hm
     conv => whnf
     refine cond_s (fun g22_4 => ?_) (fun g22_4 => ?_)
     ·replace e29 := ift (or_u (or_f g14_4 g18_4) g22_4) e29
      conv => whnf
      refine cond_t g22_4 ?_
      conv => whnf
      refine cond_t g22_4 ?_
      conv => whnf
      refine cond_t g22_4 ?_
      conv => whnf
      refine cond_t g22_4 ?_
      conv => whnf
      refine cond_t g22_4 ?_
      conv => whnf
      refine cond_t g22_4 ?_
      obtain ⟨x37, e37, hm⟩ := bnd hm
      replace e37 := ift (si e29).symm e37
      conv => whnf
      refine cond_T ?_
      conv => whnf
      refine cond_T ?_
      conv => whnf
      refine cond_T ?_
      conv => whnf
      refine cond_T ?_
      conv => whnf
      refine cond_T ?_
      conv => whnf
      refine cond_T ?_
      conv => whnf
      refine cond_T ?_
      conv => whnf
      refine cond_go rfl ?_
      conv => whnf
      refine cond_T ?_
      replace hm := ift (si e37).symm hm
      obtain rfl := si hm
      conv => whnf
      refine EndStep.mk _ (Hp.Le.refl _) ⟨rfl, rfl⟩ (ConvH.of (.cons r1 .nil))
     ·replace e29 := iff_ (or_f (or_f g14_4 g18_4) g22_4) e29
      conv => whnf
      refine field_addr rfl ?_
      conv => whnf
      refine cond_f g22_4 ?_
      conv => whnf
      refine RStep.of (load1_s r0 rfl rfl ?_)
      conv => whnf
      refine cond_f g22_4 ?_
      obtain ⟨x25, l25, k25, e29⟩ := ixb e29
      conv => whnf
      refine RStep.ofN (index_addr rfl rfl (hasR hp0_0.rd k25) l25 (lt_ofE rfl l25 k25) ?_)
      conv => whnf
      refine cond_f g22_4 ?_
      obtain ⟨ss26, cc26, hr26, hc26, hR26⟩ := LiR.get hp0_0.rd k25
      obtain ⟨a26_0, c26_0, rfl, h26_0⟩ := S_ref43_Node.out hR26
      conv => whnf
      refine RStep.of (load_rd_agg ((0 : Int).toNat) _ hr26 rfl hc26 rfl ?_)
      conv => whnf
      refine cond_f g22_4 ?_
      obtain ⟨x27, q27, e29⟩ := bnd e29
      conv => whnf
      refine call_fn (ref43_expression_ok (n' := x25) q27 h26_0) .nil ?_
      rintro _ K27 _ l27 ⟨rfl, rfl⟩
      conv => whnf
      refine cond_f g22_4 ?_
      conv => whnf
      refine un_not ?_
      conv => whnf
      refine cond_f g22_4 ?_
      obtain ⟨x37, e37, hm⟩ := bnd hm
      conv => whnf
      refine cond_s (fun g30_4 => ?_) (fun g30_4 => ?_)
      ·replace e37 := ift ((si e29).symm.trans (not_t (ni_t g30_4))) e37
       conv => whnf
       refine cond_t g30_4 ?_
       conv => whnf
       refine cond_t g30_4 ?_
       conv => whnf
       refine cond_t g30_4 ?_
       conv => whnf
       refine cond_t g30_4 ?_
       conv => whnf
       refine cond_t g30_4 ?_
       conv => whnf
       refine cond_t g30_4 ?_
       conv => whnf
       refine cond_go rfl ?_
       conv => whnf
       refine cond_T ?_
       replace hm := ift (si e37).symm hm
       obtain rfl := si hm
       conv => whnf
       refine EndStep.mk _ l27 ⟨rfl, rfl⟩ (ConvH.of (.cons r1 .nil))
      ·replace e37 := iff_ ((si e29).symm.trans (not_f (ni_f g30_4))) e37
       conv => whnf
       refine field_addr rfl ?_
       conv => whnf
       refine cond_f g30_4 ?_
       conv => whnf
       refine RStep.of (load1_s r0 rfl rfl ?_)
       conv => whnf
       refine cond_f g30_4 ?_
       obtain ⟨x33, l33, k33, e37⟩ := ixb e37
       conv => whnf
       refine RStep.ofN (index_addr rfl rfl (hasR (LiC.mono S_ref43_Node.R_ok l27 hp0_0).rd k33) l33 (lt_ofE rfl l33 k33) ?_)
       conv => whnf
       refine cond_f g30_4 ?_
       obtain ⟨ss34, cc34, hr34, hc34, hR34⟩ := LiR.get (LiC.mono S_ref43_Node.R_ok l27 hp0_0).rd k33
       obtain ⟨a34_0, c34_0, rfl, h34_0⟩ := S_ref43_Node.out hR34
       conv => whnf
       refine RStep.of (load_rd_agg ((1 : Int).toNat) _ hr34 rfl hc34 rfl ?_)
       conv => whnf
       refine cond_f g30_4 ?_
       obtain ⟨x35, q35, e37⟩ := bnd e37
       conv => whnf
       refine call_fn (ref43_blocks_ok ihrec2_0 (n' := x33) q35 h34_0) .nil ?_
       rintro _ K35 _ l35 ⟨rfl, rfl⟩
       conv => whnf
       refine cond_f g30_4 ?_
       conv => whnf
       refine un_not ?_
       conv => whnf
       refine cond_f g30_4 ?_
       conv => whnf
       refine cond_go rfl ?_
       conv => whnf
       refine cond_s (fun w37 => ?_) (fun w37 => ?_)
       ·replace hm := ift ((si e37).symm.trans (not_t (ni_t w37))) hm
        obtain rfl := si hm
        conv => whnf
        refine EndStep.mk _ (l27.trans l35) ⟨rfl, rfl⟩ (ConvH.of (.cons r1 .nil))
       ·replace hm := iff_ ((si e37).symm.trans (not_f (ni_f w37))) hm
        conv => whnf
        refine eq_int ?_
        obtain ⟨x46, e46, hm⟩ := bnd hm
        conv => whnf
        refine cond_s (fun g40_6 => ?_) (fun g40_6 => ?_)
        ·replace e46 := ift g40_6 e46
         conv => whnf
         refine cond_t g40_6 ?_
         conv => whnf
         refine cond_t g40_6 ?_
         conv => whnf
         refine cond_t g40_6 ?_
         conv => whnf
         refine cond_t g40_6 ?_
         conv => whnf
         refine cond_t g40_6 ?_
         replace hm := ift (si e46).symm hm
         conv => whnf
         refine cond_T ?_
         conv => whnf
         refine cond_T ?_
         conv => whnf
         refine cond_T ?_
         conv => whnf
         refine cond_T ?_
         conv => whnf
         refine cond_T ?_
         conv => whnf
         refine cond_T ?_
         conv => whnf
         refine cond_T ?_
         conv => whnf
         refine cond_T ?_
         conv => whnf
         refine cond_T ?_
         obtain rfl := si hm
         conv => whnf
         refine EndStep.mk _ (l27.trans l35) ⟨rfl, rfl⟩ (ConvH.of (.cons r1 .nil))
        ·replace e46 := iff_ g40_6 e46
         conv => whnf
         refine field_addr rfl ?_
         conv => whnf
         refine cond_f g40_6 ?_
         conv => whnf
         refine RStep.of (load1_s r0 rfl rfl ?_)
         conv => whnf
         refine cond_f g40_6 ?_
         obtain ⟨x43, l43, k43, e46⟩ := ixb e46
         conv => whnf
         refine RStep.ofN (index_addr rfl rfl (hasR (LiC.mono S_ref43_Node.R_ok (l27.trans l35) hp0_0).rd k43) l43 (lt_ofE rfl l43 k43) ?_)
         conv => whnf
         refine cond_f g40_6 ?_
         obtain ⟨ss44, cc44, hr44, hc44, hR44⟩ := LiR.get (LiC.mono S_ref43_Node.R_ok (l27.trans l35) hp0_0).rd k43
         obtain ⟨a44_0, c44_0, rfl, h44_0⟩ := S_ref43_Node.out hR44
         conv => whnf
         refine RStep.of (load_rd_agg ((2 : Int).toNat) _ hr44 rfl hc44 rfl ?_)
         conv => whnf
         refine cond_f g40_6 ?_
         obtain ⟨x45, q45, e46⟩ := bnd e46
         conv => whnf
         refine call_fn (ref43_blocks_ok ihrec2_0 (n' := x43) q45 h44_0) .nil ?_
         rintro _ K45 _ l45 ⟨rfl, rfl⟩
         conv => whnf
         refine cond_f g40_6 ?_
         conv => whnf
         refine cond_s (fun g47_6 => ?_) (fun g47_6 => ?_)
         ·replace hm := ift ((si e46).symm.trans g47_6) hm
          conv => whnf
          refine cond_t g47_6 ?_
          conv => whnf
          refine cond_t g47_6 ?_
          conv => whnf
          refine cond_t g47_6 ?_
          conv => whnf
          refine cond_t g47_6 ?_
          conv => whnf
          refine cond_t g47_6 ?_
          conv => whnf
          refine cond_t g47_6 ?_
          conv => whnf
          refine cond_t g47_6 ?_
          conv => whnf
          refine cond_t g47_6 ?_
          obtain rfl := si hm
          conv => whnf
          refine EndStep.mk _ ((l27.trans l35).trans l45) ⟨rfl, rfl⟩ (ConvH.of (.cons r1 .nil))
         ·replace hm := iff_ ((si e46).symm.trans g47_6) hm
          conv => whnf
          refine field_addr rfl ?_
          conv => whnf
          refine cond_f g47_6 ?_
          conv => whnf
          refine RStep.of (load1_s r0 rfl rfl ?_)
          conv => whnf
          refine cond_f g47_6 ?_
          obtain ⟨x50, l50, k50, hm⟩ := ixb hm
          conv => whnf
          refine RStep.ofN (index_addr rfl rfl (hasR (LiC.mono S_ref43_Node.R_ok ((l27.trans l35).trans l45) hp0_0).rd k50) l50 (lt_ofE rfl l50 k50) ?_)
          conv => whnf
          refine cond_f g47_6 ?_
          conv => whnf
          refine eptr_field rfl (hasR (LiC.mono S_ref43_Node.R_ok ((l27.trans l35).trans l45) hp0_0).rd k50) ?_
          conv => whnf
          refine cond_f g47_6 ?_
          obtain ⟨ss52, cc52, hr52, hc52, hR52⟩ := LiR.get (LiC.mono S_ref43_Node.R_ok ((l27.trans l35).trans l45) hp0_0).rd k50
          obtain ⟨a52_0, c52_0, rfl, h52_0⟩ := S_ref43_Node.out hR52
          conv => whnf
          refine RStep.of (load_rd ((2 : Int).toNat) 0 _ _ hr52 rfl hc52 rfl rfl ?_)
          conv => whnf
          refine cond_f g47_6 ?_
          conv => whnf
          refine eq_int ?_
          conv => whnf
          refine cond_f g47_6 ?_
          obtain ⟨x60, e60, hm⟩ := bnd hm
          conv => whnf
          refine cond_s (fun g54_6 => ?_) (fun g54_6 => ?_)
          ·replace e60 := ift g54_6 e60
           conv => whnf
           refine field_addr rfl ?_
           conv => whnf
           refine cond_t g54_6 ?_
           conv => whnf
           refine RStep.of (load1_s r0 rfl rfl ?_)
           conv => whnf
           refine cond_t g54_6 ?_
           obtain ⟨x57, l57, k57, e60⟩ := ixb e60
           conv => whnf
           refine RStep.ofN (index_addr rfl rfl (hasR (LiC.mono S_ref43_Node.R_ok ((l27.trans l35).trans l45) hp0_0).rd k57) l57 (lt_ofE rfl l57 k57) ?_)
           conv => whnf
           refine cond_t g54_6 ?_
           obtain ⟨ss58, cc58, hr58, hc58, hR58⟩ := LiR.get (LiC.mono S_ref43_Node.R_ok ((l27.trans l35).trans l45) hp0_0).rd k57
           obtain ⟨a58_0, c58_0, rfl, h58_0⟩ := S_ref43_Node.out hR58
           conv => whnf
           refine RStep.of (load_rd_agg ((2 : Int).toNat) _ hr58 rfl hc58 rfl ?_)
           conv => whnf
           refine cond_t g54_6 ?_
           obtain ⟨x59, q59, e60⟩ := bnd e60
           conv => whnf
           refine call_fn (ih (n' := x57) q59 h58_0) .nil ?_
           rintro _ K59 _ l59 ⟨rfl, rfl⟩
           conv => whnf
           refine cond_f g47_6 ?_
           conv => whnf
           refine cond_t g54_6 ?_
           conv => whnf
           refine cond_f g47_6 ?_
           obtain rfl := si hm
           conv => whnf
           refine EndStep.mk _ (((l27.trans l35).trans l45).trans l59) ⟨(by rw [← (si e60)] <;> rfl), rfl⟩ (ConvH.of (.cons r1 .nil))
          ·replace e60 := iff_ g54_6 e60
           conv => whnf
           refine cond_f g54_6 ?_
           conv => whnf
           refine cond_f g54_6 ?_
           conv => whnf
           refine cond_f g54_6 ?_
           conv => whnf
           refine cond_f g54_6 ?_
           conv => whnf
           refine cond_f g47_6 ?_
           conv => whnf
           refine cond_f g54_6 ?_
           conv => whnf
           refine cond_f g47_6 ?_
           obtain rfl := si hm
           conv => whnf
           refine EndStep.mk _ ((l27.trans l35).trans l45) ⟨(by rw [← ((si e60).symm).symm] <;> rfl), rfl⟩ (ConvH.of (.cons r1 .nil))
  ·replace hm := iff_ w6 hm
   conv => whnf
   refine eq_int ?_
   conv => whnf
   refine cond_go rfl ?_
   conv => whnf
   refine cond_s (fun w62 => ?_) (fun w62 => ?_)
   ·replace hm := ift w62 hm
    conv => whnf
    refine field_addr rfl ?_
    conv => whnf
    refine RStep.of (load1_s r0 rfl rfl ?_)
    obtain ⟨x66, q66, hm⟩ := bnd hm
    conv => whnf
    refine call_fn (ref43_named_ok (s := n'.Text) q66) .nil ?_
    rintro _ K66 _ l66 ⟨rfl, rfl⟩
    obtain ⟨x71, e71, hm⟩ := bnd hm
    conv => whnf
    refine cond_s (fun g67_8 => ?_) (fun g67_8 => ?_)
    ·replace e71 := ift g67_8 e71
     conv => whnf
     refine field_addr rfl ?_
     conv => whnf
     refine cond_t g67_8 ?_
     conv => whnf
     refine RStep.of (load1_s r0 rfl rfl ?_)
     conv => whnf
     refine cond_t g67_8 ?_
     obtain ⟨x70, q70, e71⟩ := bnd e71
     conv => whnf
     refine call_fn (ref43_exprs_ok (ref43_expression_ok (n := n)) (many := 1) q70 (LiC.mono S_ref43_Node.R_ok l66 hp0_0) rfl) .nil ?_
     rintro _ K70 _ l70 ⟨rfl, rfl⟩
     conv => whnf
     refine cond_t g67_8 ?_
     obtain rfl := si hm
     conv => whnf
     refine EndStep.mk _ (l66.trans l70) ⟨(by rw [← (si e71)] <;> rfl), rfl⟩ (ConvH.of (.cons r1 .nil))
    ·replace e71 := iff_ g67_8 e71
     conv => whnf
     refine cond_f g67_8 ?_
     conv => whnf
     refine cond_f g67_8 ?_
     conv => whnf
     refine cond_f g67_8 ?_
     obtain rfl := si hm
     conv => whnf
     refine EndStep.mk _ l66 ⟨(by rw [← ((si e71).symm).symm] <;> rfl), rfl⟩ (ConvH.of (.cons r1 .nil))
   ·replace hm := iff_ w62 hm
    conv => whnf
    refine eq_int ?_
    conv => whnf
    refine cond_go rfl ?_
    conv => whnf
    refine cond_s (fun w72 => ?_) (fun w72 => ?_)
    ·replace hm := ift w72 hm
     conv => whnf
     refine field_addr rfl ?_
     conv => whnf
     refine RStep.of (load1_s r0 rfl rfl ?_)
     conv => whnf
     refine eq_str ?_
     conv => whnf
     refine cond_s (fun g77_10 => ?_) (fun g77_10 => ?_)
     ·conv => whnf
      refine cond_t g77_10 ?_
      conv => whnf
      refine cond_t g77_10 ?_
      conv => whnf
      refine cond_t g77_10 ?_
      obtain ⟨x86, e86, hm⟩ := bnd hm
      replace e86 := ift (or_t g77_10) e86
      conv => whnf
      refine cond_T ?_
      conv => whnf
      refine field_addr rfl ?_
      conv => whnf
      refine cond_T ?_
      conv => whnf
      refine RStep.of (load1_s r0 rfl rfl ?_)
      conv => whnf
      refine cond_T ?_
      obtain ⟨x85, q85, e86⟩ := bnd e86
      conv => whnf
      refine call_fn (ref43_exprs_ok (ref43_expression_ok (n := n)) (many := 1) q85 hp0_0 rfl) .nil ?_
      rintro _ K85 _ l85 ⟨rfl, rfl⟩
      conv => whnf
      refine cond_T ?_
      obtain rfl := si hm
      conv => whnf
      refine EndStep.mk _ l85 ⟨(by rw [← (si e86)] <;> rfl), rfl⟩ (ConvH.of (.cons r1 .nil))
     ·conv => whnf
      refine field_addr rfl ?_
      conv => whnf
      refine cond_f g77_10 ?_
      conv => whnf
      refine RStep.of (load1_s r0 rfl rfl ?_)
      conv => whnf
      refine cond_f g77_10 ?_
      conv => whnf
      refine eq_str ?_
      conv => whnf
      refine cond_f g77_10 ?_
      obtain ⟨x86, e86, hm⟩ := bnd hm
      conv => whnf
      refine cond_s (fun g82_10 => ?_) (fun g82_10 => ?_)
      ·replace e86 := ift (or_u g77_10 g82_10) e86
       conv => whnf
       refine field_addr rfl ?_
       conv => whnf
       refine cond_t g82_10 ?_
       conv => whnf
       refine RStep.of (load1_s r0 rfl rfl ?_)
       conv => whnf
       refine cond_t g82_10 ?_
       obtain ⟨x85, q85, e86⟩ := bnd e86
       conv => whnf
       refine call_fn (ref43_exprs_ok (ref43_expression_ok (n := n)) (many := 1) q85 hp0_0 rfl) .nil ?_
       rintro _ K85 _ l85 ⟨rfl, rfl⟩
       conv => whnf
       refine cond_t g82_10 ?_
       obtain rfl := si hm
       conv => whnf
       refine EndStep.mk _ l85 ⟨(by rw [← (si e86)] <;> rfl), rfl⟩ (ConvH.of (.cons r1 .nil))
      ·replace e86 := iff_ (or_f g77_10 g82_10) e86
       conv => whnf
       refine cond_f g82_10 ?_
       conv => whnf
       refine cond_f g82_10 ?_
       conv => whnf
       refine cond_f g82_10 ?_
       obtain rfl := si hm
       conv => whnf
       refine EndStep.mk _ (Hp.Le.refl _) ⟨(by rw [← ((si e86).symm).symm] <;> rfl), rfl⟩ (ConvH.of (.cons r1 .nil))
    ·replace hm := iff_ w72 hm
     conv => whnf
     refine eq_int ?_
     conv => whnf
     refine cond_go rfl ?_
     conv => whnf
     refine cond_s (fun w87 => ?_) (fun w87 => ?_)
     ·replace hm := ift w87 hm
      conv => whnf
      refine field_addr rfl ?_
      conv => whnf
      refine RStep.of (load1_s r0 rfl rfl ?_)
      obtain ⟨x91, q91, hm⟩ := bnd hm
      conv => whnf
      refine call_fn (ref43_printable_ok (s := n'.Text) q91) .nil ?_
      rintro _ K91 _ l91 ⟨rfl, rfl⟩
      obtain ⟨x96, e96, hm⟩ := bnd hm
      conv => whnf
      refine cond_s (fun g92_12 => ?_) (fun g92_12 => ?_)
      ·replace e96 := ift g92_12 e96
       conv => whnf
       refine field_addr rfl ?_
       conv => whnf
       refine cond_t g92_12 ?_
       conv => whnf
       refine RStep.of (load1_s r0 rfl rfl ?_)
       conv => whnf
       refine cond_t g92_12 ?_
       obtain ⟨x95, q95, e96⟩ := bnd e96
       conv => whnf
       refine call_fn (ref43_exprs_ok (ref43_expression_ok (n := n)) (many := 1) q95 (LiC.mono S_ref43_Node.R_ok l91 hp0_0) rfl) .nil ?_
       rintro _ K95 _ l95 ⟨rfl, rfl⟩
       conv => whnf
       refine cond_t g92_12 ?_
       obtain rfl := si hm
       conv => whnf
       refine EndStep.mk _ (l91.trans l95) ⟨(by rw [← (si e96)] <;> rfl), rfl⟩ (ConvH.of (.cons r1 .nil))
      ·replace e96 := iff_ g92_12 e96
       conv => whnf
       refine cond_f g92_12 ?_
       conv => whnf
       refine cond_f g92_12 ?_
       conv => whnf
       refine cond_f g92_12 ?_
       obtain rfl := si hm
       conv => whnf
       refine EndStep.mk _ l91 ⟨(by rw [← ((si e96).symm).symm] <;> rfl), rfl⟩ (ConvH.of (.cons r1 .nil))
     ·replace hm := iff_ w87 hm
      conv => whnf
      refine eq_int ?_
      conv => whnf
      refine cond_go rfl ?_
      conv => whnf
      refine cond_s (fun w97 => ?_) (fun w97 => ?_)
      ·replace hm := ift w97 hm
       conv => whnf
       refine field_addr rfl ?_
       conv => whnf
       refine RStep.of (load1_s r0 rfl rfl ?_)
       obtain ⟨x101, q101, hm⟩ := bnd hm
       conv => whnf
       refine call_fn (ref43_printable_ok (s := n'.Text) q101) .nil ?_
       rintro _ K101 _ l101 ⟨rfl, rfl⟩
       conv => whnf
       refine cond_s (fun g102_14 => ?_) (fun g102_14 => ?_)
       ·conv => whnf
        refine field_addr rfl ?_
        conv => whnf
        refine cond_t g102_14 ?_
        conv => whnf
        refine RStep.of (load1_s r0 rfl rfl ?_)
        conv => whnf
        refine cond_t g102_14 ?_
        conv => whnf
        refine RStep.of (len_slice rfl ?_)
        conv => whnf
        refine cond_t g102_14 ?_
        conv => whnf
        refine eq_int ?_
        conv => whnf
        refine cond_t g102_14 ?_
        obtain rfl := si hm
        conv => whnf
        refine EndStep.mk _ l101 ⟨(by rw [← (and_e (b := decide ((n'.Kids.length : Int) = 0)) g102_14)] <;> rfl), rfl⟩ (ConvH.of (.cons r1 .nil))
       ·conv => whnf
        refine cond_f g102_14 ?_
        conv => whnf
        refine cond_f g102_14 ?_
        conv => whnf
        refine cond_f g102_14 ?_
        conv => whnf
        refine cond_f g102_14 ?_
        obtain rfl := si hm
        conv => whnf
        refine EndStep.mk _ l101 ⟨(by rw [← ((and_f g102_14)).symm] <;> rfl), rfl⟩ (ConvH.of (.cons r1 .nil))
      ·replace hm := iff_ w97 hm
       conv => whnf
       refine eq_int ?_
       conv => whnf
       refine cond_go rfl ?_
       conv => whnf
       refine cond_s (fun w108 => ?_) (fun w108 => ?_)
       ·replace hm := ift w108 hm
        conv => whnf
        refine cond_go rfl ?_
        conv => whnf
        refine cond_t w108 ?_
        conv => whnf
        refine field_addr rfl ?_
        conv => whnf
        refine RStep.of (load1_s r0 rfl rfl ?_)
        conv => whnf
        refine eq_str ?_
        obtain ⟨x119, e119, hm⟩ := bnd hm
        conv => whnf
        refine cond_s (fun g115_18 => ?_) (fun g115_18 => ?_)
        ·replace e119 := ift g115_18 e119
         conv => whnf
         refine field_addr rfl ?_
         conv => whnf
         refine cond_t g115_18 ?_
         conv => whnf
         refine RStep.of (load1_s r0 rfl rfl ?_)
         conv => whnf
         refine cond_t g115_18 ?_
         obtain ⟨x118, q118, e119⟩ := bnd e119
         conv => whnf
         refine call_fn (ref43_exprs_ok (ref43_expression_ok (n := n)) (many := 1) q118 hp0_0 rfl) .nil ?_
         rintro _ K118 _ l118 ⟨rfl, rfl⟩
         conv => whnf
         refine cond_t g115_18 ?_
         obtain rfl := si hm
         conv => whnf
         refine EndStep.mk _ l118 ⟨(by rw [← (si e119)] <;> rfl), rfl⟩ (ConvH.of (.cons r1 .nil))
        ·replace e119 := iff_ g115_18 e119
         conv => whnf
         refine cond_f g115_18 ?_
         conv => whnf
         refine cond_f g115_18 ?_
         conv => whnf
         refine cond_f g115_18 ?_
         obtain rfl := si hm
         conv => whnf
         refine EndStep.mk _ (Hp.Le.refl _) ⟨(by rw [← ((si e119).symm).symm] <;> rfl), rfl⟩ (ConvH.of (.cons r1 .nil))
       ·replace hm := iff_ w108 hm
        conv => whnf
        refine eq_int ?_
        conv => whnf
        refine cond_go rfl ?_
        conv => whnf
        refine cond_s (fun w108 => ?_) (fun w108 => ?_)
        ·replace hm := ift w108 hm
         conv => whnf
         refine cond_go rfl ?_
         conv => whnf
         refine cond_t w108 ?_
         conv => whnf
         refine field_addr rfl ?_
         conv => whnf
         refine RStep.of (load1_s r0 rfl rfl ?_)
         conv => whnf
         refine eq_str ?_
         obtain ⟨x119, e119, hm⟩ := bnd hm
         conv => whnf
         refine cond_s (fun g115_18 => ?_) (fun g115_18 => ?_)
         ·replace e119 := ift g115_18 e119
          conv => whnf
          refine field_addr rfl ?_
          conv => whnf
          refine cond_t g115_18 ?_
          conv => whnf
          refine RStep.of (load1_s r0 rfl rfl ?_)
          conv => whnf
          refine cond_t g115_18 ?_
          obtain ⟨x118, q118, e119⟩ := bnd e119
          conv => whnf
          refine call_fn (ref43_exprs_ok (ref43_expression_ok (n := n)) (many := 1) q118 hp0_0 rfl) .nil ?_
          rintro _ K118 _ l118 ⟨rfl, rfl⟩
          conv => whnf
          refine cond_t g115_18 ?_
          obtain rfl := si hm
          conv => whnf
          refine EndStep.mk _ l118 ⟨(by rw [← (si e119)] <;> rfl), rfl⟩ (ConvH.of (.cons r1 .nil))
         ·replace e119 := iff_ g115_18 e119
          conv => whnf
          refine cond_f g115_18 ?_
          conv => whnf
          refine cond_f g115_18 ?_
          conv => whnf
          refine cond_f g115_18 ?_
          obtain rfl := si hm
          conv => whnf
          refine EndStep.mk _ (Hp.Le.refl _) ⟨(by rw [← ((si e119).symm).symm] <;> rfl), rfl⟩ (ConvH.of (.cons r1 .nil))
        ·replace hm := iff_ w108 hm
         conv => whnf
         refine eq_int ?_
         conv => whnf
         refine cond_go rfl ?_
         conv => whnf
         refine cond_s (fun w108 => ?_) (fun w108 => ?_)
         ·replace hm := ift w108 hm
          conv => whnf
          refine field_addr rfl ?_
          conv => whnf
          refine RStep.of (load1_s r0 rfl rfl ?_)
          conv => whnf
          refine eq_str ?_
          obtain ⟨x119, e119, hm⟩ := bnd hm
          conv => whnf
          refine cond_s (fun g115_18 => ?_) (fun g115_18 => ?_)
          ·replace e119 := ift g115_18 e119
           conv => whnf
           refine field_addr rfl ?_
           conv => whnf
           refine cond_t g115_18 ?_
           conv => whnf
           refine RStep.of (load1_s r0 rfl rfl ?_)
           conv => whnf
           refine cond_t g115_18 ?_
           obtain ⟨x118, q118, e119⟩ := bnd e119
           conv => whnf
           refine call_fn (ref43_exprs_ok (ref43_expression_ok (n := n)) (many := 1) q118 hp0_0 rfl) .nil ?_
           rintro _ K118 _ l118 ⟨rfl, rfl⟩
           conv => whnf
           refine cond_t g115_18 ?_
           obtain rfl := si hm
           conv => whnf
           refine EndStep.mk _ l118 ⟨(by rw [← (si e119)] <;> rfl), rfl⟩ (ConvH.of (.cons r1 .nil))
          ·replace e119 := iff_ g115_18 e119
           conv => whnf
           refine cond_f g115_18 ?_
           conv => whnf
           refine cond_f g115_18 ?_
           conv => whnf
           refine cond_f g115_18 ?_
           obtain rfl := si hm
           conv => whnf
           refine EndStep.mk _ (Hp.Le.refl _) ⟨(by rw [← ((si e119).symm).symm] <;> rfl), rfl⟩ (ConvH.of (.cons r1 .nil))
         ·replace hm := iff_ w108 hm
          conv => whnf
          refine eq_int ?_
          conv => whnf
          refine cond_go rfl ?_
          conv => whnf
          refine cond_s (fun w120 => ?_) (fun w120 => ?_)
          ·replace hm := ift w120 hm
           conv => whnf
           refine cond_go rfl ?_
           conv => whnf
           refine cond_t w120 ?_
           conv => whnf
           refine field_addr rfl ?_
           conv => whnf
           refine RStep.of (load1_s r0 rfl rfl ?_)
           conv => whnf
           refine eq_str ?_
           conv => whnf
           refine cond_s (fun g126_21 => ?_) (fun g126_21 => ?_)
           ·conv => whnf
            refine field_addr rfl ?_
            conv => whnf
            refine cond_t g126_21 ?_
            conv => whnf
            refine RStep.of (load1_s r0 rfl rfl ?_)
            conv => whnf
            refine cond_t g126_21 ?_
            conv => whnf
            refine RStep.of (len_slice rfl ?_)
            conv => whnf
            refine cond_t g126_21 ?_
            conv => whnf
            refine eq_int ?_
            conv => whnf
            refine cond_t g126_21 ?_
            obtain rfl := si hm
            conv => whnf
            refine EndStep.mk _ (Hp.Le.refl _) ⟨(by rw [← (and_e (b := decide ((n'.Kids.length : Int) = 0)) g126_21)] <;> rfl), rfl⟩ (ConvH.of (.cons r1 .nil))
           ·conv => whnf
            refine cond_f g126_21 ?_
            conv => whnf
            refine cond_f g126_21 ?_
            conv => whnf
            refine cond_f g126_21 ?_
            conv => whnf
            refine cond_f g126_21 ?_
            obtain rfl := si hm
            conv => whnf
            refine EndStep.mk _ (Hp.Le.refl _) ⟨(by rw [← ((and_f g126_21)).symm] <;> rfl), rfl⟩ (ConvH.of (.cons r1 .nil))
          ·replace hm := iff_ w120 hm
           conv => whnf
           refine eq_int ?_
           conv => whnf
           refine cond_go rfl ?_
           conv => whnf
           refine cond_s (fun w120 => ?_) (fun w120 => ?_)
           ·replace hm := ift w120 hm
            conv => whnf
            refine field_addr rfl ?_
            conv => whnf
            refine RStep.of (load1_s r0 rfl rfl ?_)
            conv => whnf
            refine eq_str ?_
            conv => whnf
            refine cond_s (fun g126_21 => ?_) (fun g126_21 => ?_)
            ·conv => whnf
             refine field_addr rfl ?_
             conv => whnf
             refine cond_t g126_21 ?_
             conv => whnf
             refine RStep.of (load1_s r0 rfl rfl ?_)
             conv => whnf
             refine cond_t g126_21 ?_
             conv => whnf
             refine RStep.of (len_slice rfl ?_)
             conv => whnf
             refine cond_t g126_21 ?_
             conv => whnf
             refine eq_int ?_
             conv => whnf
             refine cond_t g126_21 ?_
             obtain rfl := si hm
             conv => whnf
             refine EndStep.mk _ (Hp.Le.refl _) ⟨(by rw [← (and_e (b := decide ((n'.Kids.length : Int) = 0)) g126_21)] <;> rfl), rfl⟩ (ConvH.of (.cons r1 .nil))
            ·conv => whnf
             refine cond_f g126_21 ?_
             conv => whnf
             refine cond_f g126_21 ?_
             conv => whnf
             refine cond_f g126_21 ?_
             conv => whnf
             refine cond_f g126_21 ?_
             obtain rfl := si hm
             conv => whnf
             refine EndStep.mk _ (Hp.Le.refl _) ⟨(by rw [← ((and_f g126_21)).symm] <;> rfl), rfl⟩ (ConvH.of (.cons r1 .nil))
           ·replace hm := iff_ w120 hm
            obtain rfl := si hm
            conv => whnf
            refine EndStep.mk _ (Hp.Le.refl _) ⟨rfl, rfl⟩ (ConvH.of (.cons r1 .nil))

noncomputable def ref43_all_L0 (rec_ : ((List S_ref43_Node) → Option (Bool))) (n : Nat) : List S_ref43_Node → Nat → Option (Fl (Bool) (Unit))
 | [], _ => some (Fl.go ())
 | e0 :: xs0, i0 =>
  (ref43_stands rec_ n e0).bind fun x13 =>
  if (!x13) then
  some (Fl.ret false)
  else
  ref43_all_L0 rec_ n xs0 (i0 + 1)
noncomputable def ref43_all : Nat → (List S_ref43_Node) → Option (Bool)
 | 0, _ => none
 | n + 1, l =>
  (chk (l.length ≤ szMax)).bind fun _ =>
  (ref43_all_L0 (ref43_all n) n l 0).bind fun s0 => s0.el some fun t0 =>
  some true
set_option maxHeartbeats 8000000 in
theorem ref43_all_ok : ∀ {n : Nat} {l : (List S_ref43_Node)} {ap0_0 : Option Addr} {cp0_0 : Nat} {n0 : Nat} {K : Hp} {r : Bool}
  (hm : ref43_all n l = some r) (hp0_0 : LiC S_ref43_Node.R K ap0_0 cp0_0 4 l) (en0 : n0 = l.length),
  Fn Tryd.prog 35 [.slice ap0_0 n0 cp0_0] K [] (fun v K' H' => v = .bool r ∧ H' = []) := by
 intro n
 induction n with
 | zero =>
  intro l ap0_0 cp0_0 n0 K r hm hp0_0 en0
  rw [ref43_all.eq_1] at hm; cases hm
 | succ n ih =>
  intro l ap0_0 cp0_0 n0 K r hm hp0_0 en0
  subst en0
  refine Fn.enter Tryd.func35 Tryd.call35 rfl fun F => ?_
  rw [ref43_all.eq_2] at hm
  conv => whnf
  refine RStep.of (len_slice rfl ?_)
  obtain ⟨hk0, hm⟩ := chkb hm
  obtain ⟨s0, hl0, hm⟩ := bnd hm
  conv => whnf
  refine code_cut (σ := (Unit)) [2, 3, 6, 7, 8, 9, 10, 11, 12, 13, 14, 15] (fun t0 => []) (fun t0 => [F]) (fun zz K1 => match zz with | t0 => s0 = Fl.go t0) ?_ ?_
  ·refine block_go rfl ?_
   conv => whnf
   refine loop_rule (σ := Nat) [2, 3, 6, 7, 8, 9, 10, 11, 12, 13, 14, 15] (fun i0 => [(6, .int .i64 (i0 : Int))]) (fun i0 => [F]) (fun zz K1 => match zz with | i0 => ref43_all_L0 (ref43_all n) n (l.drop i0) i0 = some s0) (fun zz => l.length - zz) (0) rfl ⟨rfl, trivial⟩ (ConvH.of (.cons r0 .nil)) hl0 ?_
   clear hl0
   rintro i0 Kb0 lk0 hl0 j0
   conv at hl0 => whnf
   conv => whnf
   refine cond_go rfl ?_
   conv => whnf
   refine cond_s (fun w0 => ?_) (fun w0 => ?_)
   ·obtain ⟨e0, hx0, hd0⟩ := ltx w0
    rw [hd0, ref43_all_L0.eq_2] at hl0
    conv => whnf
    refine block_go rfl ?_
    conv => whnf
    refine RStep.ofN (index_addr rfl rfl (hasR (LiC.mono S_ref43_Node.R_ok lk0 hp0_0).rd hx0) (nn _) (lt_ofN hx0) ?_)
    obtain ⟨ss12, cc12, hr12, hc12, hR12⟩ := LiR.get (LiC.mono S_ref43_Node.R_ok lk0 hp0_0).rd hx0
    obtain ⟨a12_0, c12_0, rfl, h12_0⟩ := S_ref43_Node.out hR12
    conv => whnf
    refine RStep.of (load_rd_agg i0 _ hr12 rfl hc12 rfl ?_)
    obtain ⟨x13, q13, hl0⟩ := bnd hl0
    conv => whnf
    refine call_fn (ref43_stands_ok ih (n' := e0) q13 h12_0) .nil ?_
    rintro _ K13 _ l13 ⟨rfl, rfl⟩
    conv => whnf
    refine un_not ?_
    conv => whnf
    refine cond_go rfl ?_
    conv => whnf
    refine cond_s (fun w14 => ?_) (fun w14 => ?_)
    ·replace hl0 := ift (not_t (ni_t w14)) hl0
     obtain rfl := si hl0
     replace hm := elr hm
     obtain rfl := si hm
     conv => whnf
     refine EndStep.mk _ (lk0.trans l13) ⟨rfl, rfl⟩ (ConvH.of (.cons r0 .nil))
    ·replace hl0 := iff_ (not_f (ni_f w14)) hl0
     conv => whnf
     refine int_in (cntz hx0 hk0) ?_
     conv => whnf
     refine RoundStep.mk (i0 + 1) ⟨rfl, trivial⟩ (by repeat (first | exact trivial | refine And.intro rfl ?_)) (ConvH.of (.cons r0 .nil)) (lk0.trans l13) (ltm hx0) hl0
   ·rw [lty w0, ref43_all_L0.eq_1] at hl0
    conv => whnf
    refine cond_T ?_
    conv => whnf
    refine MeetStep.mk (()) trivial (by repeat (first | exact trivial | refine And.intro rfl ?_)) (ConvH.of (.cons r0 .nil)) lk0 (si hl0).symm
  ·rintro t0 Kt0 lt0 rfl j0
   replace hm := elg hm
   obtain rfl := si hm
   conv => whnf
   refine EndStep.mk _ lt0 ⟨rfl, rfl⟩ (ConvH.of (.cons r0 .nil))

noncomputable def ref43_Valid (n : Nat) (n' : S_ref43_Node) : Option (Bool) :=
 (if (decide (n'.Kind = 1) && decide (n'.Text = ([] : Str))) then (ref43_Size n n').bind fun x13 =>
 some (decide (x13 ≤ 512)) else some false).bind fun x15 =>
 (if x15 then (ref43_Depth n n').bind fun x18 =>
 some (decide (x18 ≤ 32)) else some false).bind fun x20 =>
 (if x20 then (ref43_all n n'.Kids).bind fun x24 =>
 some x24 else some false).bind fun x25 =>
 some x25
set_option maxHeartbeats 8000000 in
theorem ref43_Valid_ok {n : Nat} {n' : S_ref43_Node} {ap0_0 : Option Addr} {cp0_0 : Nat} {K : Hp} {r : Bool}
  (hm : ref43_Valid n n' = some r) (hp0_0 : LiC S_ref43_Node.R K ap0_0 cp0_0 4 n'.Kids) :
  Fn Tryd.prog 17 [.agg #[.int .i64 n'.Kind, str n'.Text, .slice ap0_0 n'.Kids.length cp0_0, .int .i64 n'.Line]] K [] (fun v K' H' => v = .bool r ∧ H' = []) := by
 refine Fn.enter Tryd.func17 Tryd.call17 rfl fun F => ?_
 unfold ref43_Valid at hm
 conv => whnf
 refine box_rule ?_
 intro b1
 conv => whnf
 refine field_addr rfl ?_
 conv => whnf
 refine RStep.of (load1_s r0 rfl rfl ?_)
 conv => whnf
 refine eq_int ?_
 conv => whnf
 refine cond_s (fun g6_1 => ?_) (fun g6_1 => ?_)
 ·conv => whnf
  refine field_addr rfl ?_
  conv => whnf
  refine cond_t g6_1 ?_
  conv => whnf
  refine RStep.of (load1_s r0 rfl rfl ?_)
  conv => whnf
  refine cond_t g6_1 ?_
  conv => whnf
  refine eq_str ?_
  conv => whnf
  refine cond_t g6_1 ?_
  obtain ⟨x15, e15, hm⟩ := bnd hm
  conv => whnf
  refine cond_s (fun g11_1 => ?_) (fun g11_1 => ?_)
  ·replace e15 := ift (and_t g6_1 g11_1) e15
   conv => whnf
   refine RStep.of (loadn_s r0 rfl (Nat.le_of_ble_eq_true rfl) ?_)
   conv => whnf
   refine cond_t g11_1 ?_
   obtain ⟨x13, q13, e15⟩ := bnd e15
   conv => whnf
   refine call_fn (ref43_Size_ok (n' := n') q13 hp0_0) .nil ?_
   rintro _ K13 _ l13 ⟨rfl, rfl⟩
   conv => whnf
   refine cond_t g11_1 ?_
   conv => whnf
   refine cond_t g11_1 ?_
   obtain ⟨x20, e20, hm⟩ := bnd hm
   conv => whnf
   refine cond_s (fun g16_1 => ?_) (fun g16_1 => ?_)
   ·replace e20 := ift ((si e15).symm.trans g16_1) e20
    conv => whnf
    refine RStep.of (loadn_s r0 rfl (Nat.le_of_ble_eq_true rfl) ?_)
    conv => whnf
    refine cond_t g16_1 ?_
    obtain ⟨x18, q18, e20⟩ := bnd e20
    conv => whnf
    refine call_fn (ref43_Depth_ok (n' := n') q18 (LiC.mono S_ref43_Node.R_ok l13 hp0_0)) .nil ?_
    rintro _ K18 _ l18 ⟨rfl, rfl⟩
    conv => whnf
    refine cond_t g16_1 ?_
    conv => whnf
    refine cond_t g16_1 ?_
    obtain ⟨x25, e25, hm⟩ := bnd hm
    conv => whnf
    refine cond_s (fun g21_1 => ?_) (fun g21_1 => ?_)
    ·replace e25 := ift ((si e20).symm.trans g21_1) e25
     conv => whnf
     refine field_addr rfl ?_
     conv => whnf
     refine cond_t g21_1 ?_
     conv => whnf
     refine RStep.of (load1_s r0 rfl rfl ?_)
     conv => whnf
     refine cond_t g21_1 ?_
     obtain ⟨x24, q24, e25⟩ := bnd e25
     conv => whnf
     refine call_fn (ref43_all_ok q24 (LiC.mono S_ref43_Node.R_ok (l13.trans l18) hp0_0) rfl) .nil ?_
     rintro _ K24 _ l24 ⟨rfl, rfl⟩
     conv => whnf
     refine cond_t g21_1 ?_
     obtain rfl := si hm
     conv => whnf
     refine EndStep.mk _ ((l13.trans l18).trans l24) ⟨(by rw [← (si e25)] <;> rfl), rfl⟩ (ConvH.of (.cons r1 .nil))
    ·replace e25 := iff_ ((si e20).symm.trans g21_1) e25
     conv => whnf
     refine cond_f g21_1 ?_
     conv => whnf
     refine cond_f g21_1 ?_
     conv => whnf
     refine cond_f g21_1 ?_
     obtain rfl := si hm
     conv => whnf
     refine EndStep.mk _ (l13.trans l18) ⟨(by rw [← ((si e25).symm).symm] <;> rfl), rfl⟩ (ConvH.of (.cons r1 .nil))
   ·replace e20 := iff_ ((si e15).symm.trans g16_1) e20
    conv => whnf
    refine cond_f g16_1 ?_
    conv => whnf
    refine cond_f g16_1 ?_
    conv => whnf
    refine cond_f g16_1 ?_
    obtain ⟨x25, e25, hm⟩ := bnd hm
    replace e25 := iff_ (si e20).symm e25
    conv => whnf
    refine cond_F ?_
    conv => whnf
    refine cond_F ?_
    conv => whnf
    refine cond_F ?_
    conv => whnf
    refine cond_F ?_
    obtain rfl := si hm
    conv => whnf
    refine EndStep.mk _ l13 ⟨(by rw [← ((si e25).symm).symm] <;> rfl), rfl⟩ (ConvH.of (.cons r1 .nil))
  ·replace e15 := iff_ (and_g g6_1 g11_1) e15
   conv => whnf
   refine cond_f g11_1 ?_
   conv => whnf
   refine cond_f g11_1 ?_
   conv => whnf
   refine cond_f g11_1 ?_
   obtain ⟨x20, e20, hm⟩ := bnd hm
   replace e20 := iff_ (si e15).symm e20
   conv => whnf
   refine cond_F ?_
   conv => whnf
   refine cond_F ?_
   conv => whnf
   refine cond_F ?_
   conv => whnf
   refine cond_F ?_
   obtain ⟨x25, e25, hm⟩ := bnd hm
   replace e25 := iff_ (si e20).symm e25
   conv => whnf
   refine cond_F ?_
   conv => whnf
   refine cond_F ?_
   conv => whnf
   refine cond_F ?_
   conv => whnf
   refine cond_F ?_
   obtain rfl := si hm
   conv => whnf
   refine EndStep.mk _ (Hp.Le.refl _) ⟨(by rw [← ((si e25).symm).symm] <;> rfl), rfl⟩ (ConvH.of (.cons r1 .nil))
 ·conv => whnf
  refine cond_f g6_1 ?_
  conv => whnf
  refine cond_f g6_1 ?_
  conv => whnf
  refine cond_f g6_1 ?_
  obtain ⟨x15, e15, hm⟩ := bnd hm
  replace e15 := iff_ (and_f g6_1) e15
  conv => whnf
  refine cond_F ?_
  conv => whnf
  refine cond_F ?_
  conv => whnf
  refine cond_F ?_
  conv => whnf
  refine cond_F ?_
  obtain ⟨x20, e20, hm⟩ := bnd hm
  replace e20 := iff_ (si e15).symm e20
  conv => whnf
  refine cond_F ?_
  conv => whnf
  refine cond_F ?_
  conv => whnf
  refine cond_F ?_
  conv => whnf
  refine cond_F ?_
  obtain ⟨x25, e25, hm⟩ := bnd hm
  replace e25 := iff_ (si e20).symm e25
  conv => whnf
  refine cond_F ?_
  conv => whnf
  refine cond_F ?_
  conv => whnf
  refine cond_F ?_
  conv => whnf
  refine cond_F ?_
  obtain rfl := si hm
  conv => whnf
  refine EndStep.mk _ (Hp.Le.refl _) ⟨(by rw [← ((si e25).symm).symm] <;> rfl), rfl⟩ (ConvH.of (.cons r1 .nil))

noncomputable def law44_check (n : Nat) (list : (List S_ref43_Node)) : Option (Int × Int) :=
 (law44_Program list).bind fun x8 =>
 (law43_Of n x8).bind fun x9 =>
 (ruletype_Check n x9).bind fun x10 =>
 (base_Num x10.2).bind fun x15 =>
 some (x10.1, x15)
set_option maxHeartbeats 8000000 in
theorem law44_check_ok {n : Nat} {list : (List S_ref43_Node)} {ap0_0 : Option Addr} {cp0_0 : Nat} {n0 : Nat} {K : Hp} {r : Int × Int}
  (hm : law44_check n list = some r) (hp0_0 : LiC S_ref43_Node.R K ap0_0 cp0_0 4 list) (en0 : n0 = list.length) (hG0 : GlL eS 1 0 gkw0 K) :
  Fn Tryd.prog 19 [.slice ap0_0 n0 cp0_0] K [] (fun v K' H' => v = .tuple #[.int .i64 r.1, .int .i64 r.2] ∧ H' = []) := by
 subst en0
 obtain ⟨ga0, gn0, gc0, gn_, gs0, gd0⟩ := id hG0
 subst gn_
 refine Fn.enter Tryd.func19 Tryd.call19 rfl fun F => ?_
 unfold law44_check at hm
 obtain ⟨x8, q8, hm⟩ := bnd hm
 conv => whnf
 refine call_fn (law44_Program_ok q8 hp0_0 rfl) .nil ?_
 rintro _ K8 _ l8 ⟨a8_0, c8_0, rfl, h8_0, rfl⟩
 obtain ⟨x9, q9, hm⟩ := bnd hm
 conv => whnf
 refine call_fn (law43_Of_ok (n' := x8) q9 h8_0) .nil ?_
 rintro _ K9 _ l9 ⟨a9_0, c9_0, s9_0, rfl, h9_0, r9_0, rfl⟩
 obtain ⟨x10, q10, hm⟩ := bnd hm
 conv => whnf
 refine fzFR Tryd.call13 S_ruletree_Node.R_ok r0 r9_0 fun Kf10_0_0 lf10_0_0 ff10_0_0 => ?_
 refine call_fn (ruletype_Check_ok (program := x9) q10 ff10_0_0 (hG0.mono ((l8.trans l9).trans lf10_0_0))) .nil ?_
 rintro _ K10 _ l10 ⟨rfl, rfl⟩
 obtain ⟨x15, q15, hm⟩ := bnd hm
 conv => whnf
 refine call_fn (base_Num_ok (e := x10.2) q15) .nil ?_
 rintro _ K15 _ l15 ⟨rfl, rfl⟩
 obtain rfl := si hm
 conv => whnf
 refine EndStep.mk _ ((((l8.trans l9).trans lf10_0_0).trans l10).trans l15) ⟨rfl, rfl⟩ (ConvH.of (.cons r0 .nil))
