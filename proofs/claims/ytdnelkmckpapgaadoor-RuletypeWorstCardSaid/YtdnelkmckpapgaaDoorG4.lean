/- Functions of the program: mirrors, and that a call returns what the mirror says. Printed by gen.py. -/
import Derived.Test.YtdnelkmckpapgaaDoorG3
set_option linter.unusedVariables false
set_option linter.unusedSimpArgs false
open Go Go.SL Go.Proofs
set_option maxRecDepth 1000000
noncomputable def ref42_take_L1 (s : Str) : Nat → Int → Option (Int)
 | 0, _ => none
 | xs1 + 1, y1_0 =>
  if decide (y1_0 < (s.length : Int)) then
  (ix s y1_0).bind fun x19 =>
  (ref42_letter x19).bind fun x20 =>
  (if x20 then some true else (ix s y1_0).bind fun x24 =>
  (ref42_digit x24).bind fun x25 =>
  some x25).bind fun x26 =>
  if x26 then
  (chk (InI (y1_0 + 1))).bind fun _ =>
  ref42_take_L1 s xs1 (y1_0 + 1)
  else
  some y1_0
  else
  some y1_0
noncomputable def ref42_take_L3 (s : Str) : Nat → Int → Option (Int)
 | 0, _ => none
 | xs3 + 1, y3_0 =>
  (if decide (y3_0 < (s.length : Int)) then (ix s y3_0).bind fun x45 =>
  (ref42_digit x45).bind fun x46 =>
  some x46 else some false).bind fun x47 =>
  if x47 then
  (chk (InI (y3_0 + 1))).bind fun _ =>
  ref42_take_L3 s xs3 (y3_0 + 1)
  else
  some y3_0
noncomputable def ref42_take_L5 (s : Str) : Nat → Nat → Option (Fl (Int × Str × Int) (Unit))
 | 0, _ => some (Fl.go ())
 | xs5 + 1, i5 =>
  (ix ([([61, 61] : Str), ([33, 61] : Str), ([60, 61] : Str), ([60] : Str), ([43] : Str), ([45] : Str), ([42] : Str), ([40] : Str), ([41] : Str), ([123] : Str), ([125] : Str), ([44] : Str), ([59] : Str), ([61] : Str)]) (i5 : Int)).bind fun x75 =>
  (if decide ((s.length : Int) ≥ (x75.length : Int)) then (ix ([([61, 61] : Str), ([33, 61] : Str), ([60, 61] : Str), ([60] : Str), ([43] : Str), ([45] : Str), ([42] : Str), ([40] : Str), ([41] : Str), ([123] : Str), ([125] : Str), ([44] : Str), ([59] : Str), ([61] : Str)]) (i5 : Int)).bind fun x83 =>
  (chk (0 ≤ (0 : Int) ∧ (0 : Int) ≤ (x83.length : Int) ∧ (x83.length : Int) ≤ (s.length : Int))).bind fun _ =>
  (ix ([([61, 61] : Str), ([33, 61] : Str), ([60, 61] : Str), ([60] : Str), ([43] : Str), ([45] : Str), ([42] : Str), ([40] : Str), ([41] : Str), ([123] : Str), ([125] : Str), ([44] : Str), ([59] : Str), ([61] : Str)]) (i5 : Int)).bind fun x89 =>
  some (decide ((subL s (0 : Int) (x83.length : Int)) = x89)) else some false).bind fun x92 =>
  if x92 then
  (ix ([([61, 61] : Str), ([33, 61] : Str), ([60, 61] : Str), ([60] : Str), ([43] : Str), ([45] : Str), ([42] : Str), ([40] : Str), ([41] : Str), ([123] : Str), ([125] : Str), ([44] : Str), ([59] : Str), ([61] : Str)]) (i5 : Int)).bind fun x95 =>
  (ix ([([61, 61] : Str), ([33, 61] : Str), ([60, 61] : Str), ([60] : Str), ([43] : Str), ([45] : Str), ([42] : Str), ([40] : Str), ([41] : Str), ([123] : Str), ([125] : Str), ([44] : Str), ([59] : Str), ([61] : Str)]) (i5 : Int)).bind fun x99 =>
  some (Fl.ret (4, x95, (x99.length : Int)))
  else
  ref42_take_L5 s xs5 (i5 + 1)
noncomputable def ref42_take (n : Nat) (s : Str) : Option (Int × Str × Int) :=
 (ix s 0).bind fun x10 =>
 (ref42_letter x10).bind fun x11 =>
 if x11 then
 (ref42_take_L1 s n 0).bind fun t1 =>
 (chk (0 ≤ (0 : Int) ∧ (0 : Int) ≤ t1 ∧ t1 ≤ (s.length : Int))).bind fun _ =>
 some (1, (subL s (0 : Int) t1), t1)
 else
 (ix s 0).bind fun x36 =>
 (ref42_digit x36).bind fun x37 =>
 if x37 then
 (ref42_take_L3 s n 0).bind fun t3 =>
 if decide (t3 > 9) then
 some (0, ([] : Str), 0)
 else
 (chk (0 ≤ (0 : Int) ∧ (0 : Int) ≤ t3 ∧ t3 ≤ (s.length : Int))).bind fun _ =>
 some (2, (subL s (0 : Int) t3), t3)
 else
 (ix s 0).bind fun x58 =>
 if decide ((x58.toNat : Int) = 34) then
 (ref42_quoted n s).bind fun x61 =>
 some (x61.1, x61.2.1, x61.2.2)
 else
 (chk (InI (14 : Int))).bind fun _ =>
 (ref42_take_L5 s (14 : Int).toNat 0).bind fun s5 => s5.el some fun t5 =>
 some (0, ([] : Str), 0)
set_option maxHeartbeats 8000000 in
theorem ref42_take_ok {n : Nat} {s : Str} {K : Hp} {r : Int × Str × Int}
  (hm : ref42_take n s = some r)  :
  Fn Tryd.prog 90 [str s] K [] (fun v K' H' => v = .tuple #[.int .i64 r.1, str r.2.1, .int .i64 r.2.2] ∧ H' = []) := by
 refine Fn.enter Tryd.func90 Tryd.call90 rfl fun F => ?_
 unfold ref42_take at hm
 conv => whnf
 refine block_go rfl ?_
 obtain ⟨x10, l10, k10, hm⟩ := ixb hm
 conv => whnf
 refine idx_str rfl l10 k10 ?_
 obtain ⟨x11, q11, hm⟩ := bnd hm
 conv => whnf
 refine call_fn (ref42_letter_ok (c := x10) q11) .nil ?_
 rintro _ K11 _ l11 ⟨rfl, rfl⟩
 conv => whnf
 refine cond_go rfl ?_
 conv => whnf
 refine cond_s (fun w8 => ?_) (fun w8 => ?_)
 ·replace hm := ift w8 hm
  obtain ⟨s1, hl1, hm⟩ := bnd hm
  conv => whnf
  refine code_cut (σ := (Int)) [5, 12, 13, 14, 15, 16, 17, 18, 19, 20, 21, 22, 23, 24, 25, 26, 27, 28, 29] (fun t1 => [(5, .int .i64 t1)]) (fun t1 => [F]) (fun zz K1 => match zz with | t1 => t1 = s1) ?_ ?_
  ·refine block_go rfl ?_
   conv => whnf
   refine loop_rule (σ := Nat × Int) [5, 12, 13, 14, 15, 16, 17, 18, 19, 20, 21, 22, 23, 24, 25, 26, 27, 28, 29] (fun (i1, y1_0) => [(5, .int .i64 y1_0)]) (fun (i1, y1_0) => [F]) (fun zz K1 => match zz with | (i1, y1_0) => ref42_take_L1 s i1 y1_0 = some s1) (fun zz => zz.1) (n, 0) rfl ⟨rfl, trivial⟩ (ConvH.of (.cons r0 .nil)) hl1 ?_
   clear hl1
   rintro ⟨i1, y1_0⟩ Kb1 lk1 hl1 j1
   conv at hl1 => whnf
   cases i1 with
   | zero => rw [ref42_take_L1.eq_1] at hl1; cases hl1
   | succ i1 =>
    rw [ref42_take_L1.eq_2] at hl1
    conv => whnf
    refine RStep.of (len_str rfl ?_)
    conv => whnf
    refine cond_s (fun g16_3 => ?_) (fun g16_3 => ?_)
    ·replace hl1 := ift g16_3 hl1
     conv => whnf
     refine cond_t g16_3 ?_
     conv => whnf
     refine cond_t g16_3 ?_
     obtain ⟨x19, l19, k19, hl1⟩ := ixb hl1
     conv => whnf
     refine idx_str rfl l19 k19 ?_
     conv => whnf
     refine cond_t g16_3 ?_
     obtain ⟨x20, q20, hl1⟩ := bnd hl1
     conv => whnf
     refine call_fn (ref42_letter_ok (c := x19) q20) .nil ?_
     rintro _ K20 _ l20 ⟨rfl, rfl⟩
     conv => whnf
     refine cond_t g16_3 ?_
     obtain ⟨x26, e26, hl1⟩ := bnd hl1
     conv => whnf
     refine cond_s (fun g21_3 => ?_) (fun g21_3 => ?_)
     ·replace e26 := ift g21_3 e26
      conv => whnf
      refine cond_t g21_3 ?_
      conv => whnf
      refine cond_t g21_3 ?_
      conv => whnf
      refine cond_t g21_3 ?_
      conv => whnf
      refine cond_t g16_3 ?_
      conv => whnf
      refine cond_t g21_3 ?_
      conv => whnf
      refine cond_t g16_3 ?_
      conv => whnf
      refine cond_go rfl ?_
      conv => whnf
      refine cond_T ?_
      replace hl1 := ift (si e26).symm hl1
      conv => whnf
      refine block_go rfl ?_
      obtain ⟨h29, hl1⟩ := chkb hl1
      conv => whnf
      refine int_in h29 ?_
      conv => whnf
      refine RoundStep.mk (i1, (y1_0 + 1)) ⟨rfl, trivial⟩ (by repeat (first | exact trivial | refine And.intro rfl ?_)) (ConvH.of (.cons r0 .nil)) (lk1.trans l20) (Nat.lt_succ_self _) hl1
     ·replace e26 := iff_ g21_3 e26
      conv => whnf
      refine cond_f g21_3 ?_
      conv => whnf
      refine cond_f g21_3 ?_
      obtain ⟨x24, l24, k24, e26⟩ := ixb e26
      conv => whnf
      refine idx_str rfl l24 k24 ?_
      conv => whnf
      refine cond_f g21_3 ?_
      obtain ⟨x25, q25, e26⟩ := bnd e26
      conv => whnf
      refine call_fn (ref42_digit_ok (c := x24) q25) .nil ?_
      rintro _ K25 _ l25 ⟨rfl, rfl⟩
      conv => whnf
      refine cond_t g16_3 ?_
      conv => whnf
      refine cond_f g21_3 ?_
      conv => whnf
      refine cond_t g16_3 ?_
      conv => whnf
      refine cond_go rfl ?_
      conv => whnf
      refine cond_s (fun w27 => ?_) (fun w27 => ?_)
      ·replace hl1 := ift ((si e26).symm.trans w27) hl1
       conv => whnf
       refine block_go rfl ?_
       obtain ⟨h29, hl1⟩ := chkb hl1
       conv => whnf
       refine int_in h29 ?_
       conv => whnf
       refine RoundStep.mk (i1, (y1_0 + 1)) ⟨rfl, trivial⟩ (by repeat (first | exact trivial | refine And.intro rfl ?_)) (ConvH.of (.cons r0 .nil)) ((lk1.trans l20).trans l25) (Nat.lt_succ_self _) hl1
      ·replace hl1 := iff_ ((si e26).symm.trans w27) hl1
       conv => whnf
       refine cond_T ?_
       conv => whnf
       refine MeetStep.mk (y1_0) ⟨rfl, trivial⟩ (by repeat (first | exact trivial | refine And.intro rfl ?_)) (ConvH.of (.cons r0 .nil)) ((lk1.trans l20).trans l25) (si hl1)
    ·replace hl1 := iff_ g16_3 hl1
     conv => whnf
     refine cond_f g16_3 ?_
     conv => whnf
     refine cond_f g16_3 ?_
     conv => whnf
     refine cond_f g16_3 ?_
     conv => whnf
     refine cond_f g16_3 ?_
     conv => whnf
     refine cond_f g16_3 ?_
     conv => whnf
     refine cond_f g16_3 ?_
     conv => whnf
     refine cond_go rfl ?_
     conv => whnf
     refine cond_F ?_
     conv => whnf
     refine cond_T ?_
     conv => whnf
     refine MeetStep.mk (y1_0) ⟨rfl, trivial⟩ (by repeat (first | exact trivial | refine And.intro rfl ?_)) (ConvH.of (.cons r0 .nil)) lk1 (si hl1)
  ·rintro t1 Kt1 lt1 rfl j1
   conv => whnf
   refine draw_go ⟨⟨[], false⟩, _, []⟩ (by kernel_rfl) ⟨Hp.Le.refl _, (ConvH.of .nil)⟩ ?_
   obtain ⟨h32, hm⟩ := chkb hm
   conv => whnf
   refine sl_str (lo := none) (hi := (some t1)) rfl h32 ?_
   obtain rfl := si hm
   conv => whnf
   refine EndStep.mk _ (l11.trans lt1) ⟨rfl, rfl⟩ (ConvH.of (.cons r0 .nil))
 ·replace hm := iff_ w8 hm
  obtain ⟨x36, l36, k36, hm⟩ := ixb hm
  conv => whnf
  refine idx_str rfl l36 k36 ?_
  obtain ⟨x37, q37, hm⟩ := bnd hm
  conv => whnf
  refine call_fn (ref42_digit_ok (c := x36) q37) .nil ?_
  rintro _ K37 _ l37 ⟨rfl, rfl⟩
  conv => whnf
  refine cond_go rfl ?_
  conv => whnf
  refine cond_s (fun w34 => ?_) (fun w34 => ?_)
  ·replace hm := ift w34 hm
   obtain ⟨s3, hl3, hm⟩ := bnd hm
   conv => whnf
   refine code_cut (σ := (Int)) [5, 38, 39, 40, 41, 42, 43, 44, 45, 46, 47, 48, 49] (fun t3 => [(5, .int .i64 t3)]) (fun t3 => [F]) (fun zz K1 => match zz with | t3 => t3 = s3) ?_ ?_
   ·refine block_go rfl ?_
    conv => whnf
    refine loop_rule (σ := Nat × Int) [5, 38, 39, 40, 41, 42, 43, 44, 45, 46, 47, 48, 49] (fun (i3, y3_0) => [(5, .int .i64 y3_0)]) (fun (i3, y3_0) => [F]) (fun zz K1 => match zz with | (i3, y3_0) => ref42_take_L3 s i3 y3_0 = some s3) (fun zz => zz.1) (n, 0) rfl ⟨rfl, trivial⟩ (ConvH.of (.cons r0 .nil)) hl3 ?_
    clear hl3
    rintro ⟨i3, y3_0⟩ Kb3 lk3 hl3 j3
    conv at hl3 => whnf
    cases i3 with
    | zero => rw [ref42_take_L3.eq_1] at hl3; cases hl3
    | succ i3 =>
     rw [ref42_take_L3.eq_2] at hl3
     conv => whnf
     refine RStep.of (len_str rfl ?_)
     obtain ⟨x47, e47, hl3⟩ := bnd hl3
     conv => whnf
     refine cond_s (fun g42_7 => ?_) (fun g42_7 => ?_)
     ·replace e47 := ift g42_7 e47
      conv => whnf
      refine cond_t g42_7 ?_
      conv => whnf
      refine cond_t g42_7 ?_
      obtain ⟨x45, l45, k45, e47⟩ := ixb e47
      conv => whnf
      refine idx_str rfl l45 k45 ?_
      conv => whnf
      refine cond_t g42_7 ?_
      obtain ⟨x46, q46, e47⟩ := bnd e47
      conv => whnf
      refine call_fn (ref42_digit_ok (c := x45) q46) .nil ?_
      rintro _ K46 _ l46 ⟨rfl, rfl⟩
      conv => whnf
      refine cond_t g42_7 ?_
      conv => whnf
      refine cond_go rfl ?_
      conv => whnf
      refine cond_s (fun w47 => ?_) (fun w47 => ?_)
      ·replace hl3 := ift ((si e47).symm.trans w47) hl3
       conv => whnf
       refine block_go rfl ?_
       obtain ⟨h49, hl3⟩ := chkb hl3
       conv => whnf
       refine int_in h49 ?_
       conv => whnf
       refine RoundStep.mk (i3, (y3_0 + 1)) ⟨rfl, trivial⟩ (by repeat (first | exact trivial | refine And.intro rfl ?_)) (ConvH.of (.cons r0 .nil)) (lk3.trans l46) (Nat.lt_succ_self _) hl3
      ·replace hl3 := iff_ ((si e47).symm.trans w47) hl3
       conv => whnf
       refine cond_T ?_
       conv => whnf
       refine MeetStep.mk (y3_0) ⟨rfl, trivial⟩ (by repeat (first | exact trivial | refine And.intro rfl ?_)) (ConvH.of (.cons r0 .nil)) (lk3.trans l46) (si hl3)
     ·replace e47 := iff_ g42_7 e47
      conv => whnf
      refine cond_f g42_7 ?_
      conv => whnf
      refine cond_f g42_7 ?_
      conv => whnf
      refine cond_f g42_7 ?_
      conv => whnf
      refine cond_f g42_7 ?_
      conv => whnf
      refine cond_go rfl ?_
      conv => whnf
      refine cond_F ?_
      replace hl3 := iff_ (si e47).symm hl3
      conv => whnf
      refine cond_T ?_
      conv => whnf
      refine MeetStep.mk (y3_0) ⟨rfl, trivial⟩ (by repeat (first | exact trivial | refine And.intro rfl ?_)) (ConvH.of (.cons r0 .nil)) lk3 (si hl3)
   ·rintro t3 Kt3 lt3 rfl j3
    conv => whnf
    refine cond_go rfl ?_
    conv => whnf
    refine cond_s (fun w51 => ?_) (fun w51 => ?_)
    ·replace hm := ift w51 hm
     obtain rfl := si hm
     conv => whnf
     refine EndStep.mk _ ((l11.trans l37).trans lt3) ⟨rfl, rfl⟩ (ConvH.of (.cons r0 .nil))
    ·replace hm := iff_ w51 hm
     conv => whnf
     refine draw_go ⟨⟨[], false⟩, _, []⟩ (by kernel_rfl) ⟨Hp.Le.refl _, (ConvH.of .nil)⟩ ?_
     obtain ⟨h54, hm⟩ := chkb hm
     conv => whnf
     refine sl_str (lo := none) (hi := (some t3)) rfl h54 ?_
     obtain rfl := si hm
     conv => whnf
     refine EndStep.mk _ ((l11.trans l37).trans lt3) ⟨rfl, rfl⟩ (ConvH.of (.cons r0 .nil))
  ·replace hm := iff_ w34 hm
   obtain ⟨x58, l58, k58, hm⟩ := ixb hm
   conv => whnf
   refine idx_str rfl l58 k58 ?_
   conv => whnf
   refine eq_int ?_
   conv => whnf
   refine cond_go rfl ?_
   conv => whnf
   refine cond_s (fun w56 => ?_) (fun w56 => ?_)
   ·replace hm := ift w56 hm
    obtain ⟨x61, q61, hm⟩ := bnd hm
    conv => whnf
    refine call_fn (ref42_quoted_ok (s := s) q61) .nil ?_
    rintro _ K61 _ l61 ⟨rfl, rfl⟩
    obtain rfl := si hm
    conv => whnf
    refine EndStep.mk _ ((l11.trans l37).trans l61) ⟨rfl, rfl⟩ (ConvH.of (.cons r0 .nil))
   ·replace hm := iff_ w56 hm
    conv => whnf
    refine bsO (len := 14) (enc := eS) (l := [([61, 61] : Str), ([33, 61] : Str), ([60, 61] : Str), ([60] : Str), ([43] : Str), ([45] : Str), ([42] : Str), ([40] : Str), ([41] : Str), ([123] : Str), ([125] : Str), ([44] : Str), ([59] : Str), ([61] : Str)]) (cl := [str ([61, 61] : Str), str ([33, 61] : Str), str ([60, 61] : Str), str ([60] : Str), str ([43] : Str), str ([45] : Str), str ([42] : Str), str ([40] : Str), str ([41] : Str), str ([123] : Str), str ([125] : Str), str ([44] : Str), str ([59] : Str), str ([61] : Str)]) elT114 rfl rfl (fun _ _ => rfl) rfl rfl rfl ?_ fun b65 => ?_
    ·conv => whnf
     refine cond_T ?_
     conv => whnf
     refine cond_T ?_
     conv => whnf
     refine cond_T ?_
     conv => whnf
     refine cond_T ?_
     conv => whnf
     refine cond_T ?_
     conv => whnf
     refine cond_T ?_
     conv => whnf
     refine cond_T ?_
     conv => whnf
     refine cond_T ?_
     conv => whnf
     refine cond_T ?_
     conv => whnf
     refine cond_T ?_
     conv => whnf
     refine cond_T ?_
     conv => whnf
     refine cond_T ?_
     conv => whnf
     refine cond_T ?_
     conv => whnf
     refine cond_T ?_
     conv => whnf
     first | done | rfl
    conv => whnf
    refine RStep.of (len_slice rfl ?_)
    obtain ⟨hk5, hm⟩ := chkb hm
    obtain ⟨s5, hl5, hm⟩ := bnd hm
    conv => whnf
    refine code_cut (σ := (Unit)) [2, 3, 4, 7, 68, 69, 70, 71, 72, 73, 74, 75, 76, 77, 78, 79, 80, 81, 82, 83, 84, 85, 86, 87, 88, 89, 90, 91, 92, 93, 94, 95, 96, 97, 98, 99, 100, 101, 102] (fun t5 => []) (fun t5 => [OwnL eS (some ⟨b65, 0, none⟩) 9 1 14 ([([61, 61] : Str), ([33, 61] : Str), ([60, 61] : Str), ([60] : Str), ([43] : Str), ([45] : Str), ([42] : Str), ([40] : Str), ([41] : Str), ([123] : Str), ([125] : Str), ([44] : Str), ([59] : Str), ([61] : Str)]), F]) (fun zz K1 => match zz with | t5 => s5 = Fl.go t5) ?_ ?_
    ·refine block_go rfl ?_
     conv => whnf
     refine loop_rule (σ := Nat) [2, 3, 4, 7, 68, 69, 70, 71, 72, 73, 74, 75, 76, 77, 78, 79, 80, 81, 82, 83, 84, 85, 86, 87, 88, 89, 90, 91, 92, 93, 94, 95, 96, 97, 98, 99, 100, 101, 102] (fun i5 => [(68, .int .i64 (i5 : Int))]) (fun i5 => [OwnL eS (some ⟨b65, 0, none⟩) 9 1 14 ([([61, 61] : Str), ([33, 61] : Str), ([60, 61] : Str), ([60] : Str), ([43] : Str), ([45] : Str), ([42] : Str), ([40] : Str), ([41] : Str), ([123] : Str), ([125] : Str), ([44] : Str), ([59] : Str), ([61] : Str)]), F]) (fun zz K1 => match zz with | i5 => ref42_take_L5 s ((14 : Int).toNat - i5) i5 = some s5) (fun zz => (14 : Int).toNat - zz) (0) rfl ⟨rfl, trivial⟩ (ConvH.of (.cons r0 (.cons r0 .nil))) hl5 ?_
     clear hl5
     rintro i5 Kb5 lk5 hl5 j5
     conv at hl5 => whnf
     conv => whnf
     refine cond_go rfl ?_
     conv => whnf
     refine cond_s (fun w5 => ?_) (fun w5 => ?_)
     ·rw [ltn (n := (14 : Int)) w5, ref42_take_L5.eq_2] at hl5
      conv => whnf
      refine block_go rfl ?_
      conv => whnf
      refine DStep.ownLe r0 fun hc7 => ?_
      conv => whnf
      refine draw_go ⟨⟨[], true⟩, _, []⟩ (by kernel_rfl) ⟨Hp.Le.refl _, (ConvH.of .nil)⟩ ?_
      conv => whnf
      refine len_strN rfl ?_
      obtain ⟨x75, l75, k75, hl5⟩ := ixb hl5
      conv => whnf
      refine index_addr rfl rfl (hasO (fun _ => ⟨_, _, rfl⟩) k75) l75 (lt_ofE rfl l75 k75) ?_
      conv => whnf
      refine ld_own (i := ((i5 : Int)).toNat) (o := 0) r0 rfl k75 rfl rfl ?_
      conv => whnf
      refine len_strN rfl ?_
      obtain ⟨x92, e92, hl5⟩ := bnd hl5
      conv => whnf
      refine cond_s (fun g79_18 => ?_) (fun g79_18 => ?_)
      ·replace e92 := ift g79_18 e92
       conv => whnf
       refine cond_t g79_18 ?_
       conv => whnf
       refine cond_t g79_18 ?_
       conv => whnf
       refine cond_t g79_18 ?_
       obtain ⟨x83, l83, k83, e92⟩ := ixb e92
       conv => whnf
       refine index_addr rfl rfl (hasO (fun _ => ⟨_, _, rfl⟩) k83) l83 (lt_ofE rfl l83 k83) ?_
       conv => whnf
       refine cond_t g79_18 ?_
       conv => whnf
       refine ld_own (i := ((i5 : Int)).toNat) (o := 0) r0 rfl k83 rfl rfl ?_
       conv => whnf
       refine cond_t g79_18 ?_
       conv => whnf
       refine len_strN rfl ?_
       conv => whnf
       refine cond_t g79_18 ?_
       obtain ⟨h86, e92⟩ := chkb e92
       conv => whnf
       refine sl_str (lo := none) (hi := (some (x83.length : Int))) rfl h86 ?_
       conv => whnf
       refine cond_t g79_18 ?_
       conv => whnf
       refine cond_t g79_18 ?_
       conv => whnf
       refine cond_t g79_18 ?_
       obtain ⟨x89, l89, k89, e92⟩ := ixb e92
       conv => whnf
       refine index_addr rfl rfl (hasO (fun _ => ⟨_, _, rfl⟩) k89) l89 (lt_ofE rfl l89 k89) ?_
       conv => whnf
       refine cond_t g79_18 ?_
       conv => whnf
       refine ld_own (i := ((i5 : Int)).toNat) (o := 0) r0 rfl k89 rfl rfl ?_
       conv => whnf
       refine cond_t g79_18 ?_
       conv => whnf
       refine eq_str ?_
       conv => whnf
       refine cond_t g79_18 ?_
       conv => whnf
       refine cond_go rfl ?_
       conv => whnf
       refine cond_s (fun w92 => ?_) (fun w92 => ?_)
       ·replace hl5 := ift ((si e92).symm.trans w92) hl5
        conv => whnf
        refine draw_go ⟨⟨[], true⟩, _, []⟩ (by kernel_rfl) ⟨Hp.Le.refl _, (ConvH.of .nil)⟩ ?_
        obtain ⟨x95, l95, k95, hl5⟩ := ixb hl5
        conv => whnf
        refine index_addr rfl rfl (hasO (fun _ => ⟨_, _, rfl⟩) k95) l95 (lt_ofE rfl l95 k95) ?_
        conv => whnf
        refine ld_own (i := ((i5 : Int)).toNat) (o := 0) r0 rfl k95 rfl rfl ?_
        obtain ⟨x99, l99, k99, hl5⟩ := ixb hl5
        conv => whnf
        refine index_addr rfl rfl (hasO (fun _ => ⟨_, _, rfl⟩) k99) l99 (lt_ofE rfl l99 k99) ?_
        conv => whnf
        refine ld_own (i := ((i5 : Int)).toNat) (o := 0) r0 rfl k99 rfl rfl ?_
        conv => whnf
        refine len_strN rfl ?_
        obtain rfl := si hl5
        replace hm := elr hm
        obtain rfl := si hm
        conv => whnf
        refine EndStep.mk _ ((l11.trans l37).trans lk5) ⟨rfl, rfl⟩ (ConvH.of (.cons r1 .nil))
       ·replace hl5 := iff_ ((si e92).symm.trans w92) hl5
        conv => whnf
        refine int_in (cntn w5 hk5) ?_
        conv => whnf
        refine RoundStep.mk (i5 + 1) ⟨rfl, trivial⟩ (by repeat (first | exact trivial | refine And.intro rfl ?_)) (ConvH.of (.cons r0 (.cons r0 .nil))) lk5 (ltnm w5) hl5
      ·replace e92 := iff_ g79_18 e92
       conv => whnf
       refine cond_f g79_18 ?_
       conv => whnf
       refine cond_f g79_18 ?_
       conv => whnf
       refine cond_f g79_18 ?_
       conv => whnf
       refine cond_f g79_18 ?_
       conv => whnf
       refine cond_f g79_18 ?_
       conv => whnf
       refine cond_f g79_18 ?_
       conv => whnf
       refine cond_f g79_18 ?_
       conv => whnf
       refine cond_f g79_18 ?_
       conv => whnf
       refine cond_f g79_18 ?_
       conv => whnf
       refine cond_f g79_18 ?_
       conv => whnf
       refine cond_f g79_18 ?_
       conv => whnf
       refine cond_f g79_18 ?_
       conv => whnf
       refine cond_go rfl ?_
       conv => whnf
       refine cond_F ?_
       replace hl5 := iff_ (si e92).symm hl5
       conv => whnf
       refine int_in (cntn w5 hk5) ?_
       conv => whnf
       refine RoundStep.mk (i5 + 1) ⟨rfl, trivial⟩ (by repeat (first | exact trivial | refine And.intro rfl ?_)) (ConvH.of (.cons r0 (.cons r0 .nil))) lk5 (ltnm w5) hl5
     ·rw [lto (n := (14 : Int)) w5, ref42_take_L5.eq_1] at hl5
      conv => whnf
      refine cond_T ?_
      conv => whnf
      refine MeetStep.mk (()) trivial (by repeat (first | exact trivial | refine And.intro rfl ?_)) (ConvH.of (.cons r0 (.cons r0 .nil))) lk5 (si hl5).symm
    ·rintro t5 Kt5 lt5 rfl j5
     replace hm := elg hm
     obtain rfl := si hm
     conv => whnf
     refine EndStep.mk _ ((l11.trans l37).trans lt5) ⟨rfl, rfl⟩ (ConvH.of (.cons r1 .nil))

noncomputable def ref42_Split_L3 (y0_3 : Int) (text : Str) : Nat → Int → Option (Int)
 | 0, _ => none
 | xs3 + 1, y3_0 =>
  (chk (InI (y0_3 + y3_0))).bind fun _ =>
  (if decide ((y0_3 + y3_0) < (text.length : Int)) then (chk (InI (y0_3 + y3_0))).bind fun _ =>
  (ix text (y0_3 + y3_0)).bind fun x42 =>
  some (decide ((x42.toNat : Int) ≠ 10)) else some false).bind fun x44 =>
  if x44 then
  (chk (InI (y3_0 + 1))).bind fun _ =>
  ref42_Split_L3 y0_3 text xs3 (y3_0 + 1)
  else
  some y3_0
noncomputable def ref42_Split_L0 (text : Str) (n : Nat) : Nat → (List S_ref42_Token) → Int → Int → Int → Option (Fl ((List S_ref42_Token) × Int) ((List S_ref42_Token) × Int × Int × Int))
 | 0, _, _, _, _ => none
 | xs0 + 1, y0_0, y0_1, y0_2, y0_3 =>
  if decide (y0_3 < (text.length : Int)) then
  (ix text y0_3).bind fun x22 =>
  if decide ((x22.toNat : Int) = 10) then
  (chk (InI (y0_1 + 1))).bind fun _ =>
  (chk (InI (y0_3 + 1))).bind fun _ =>
  (chk (InI (0 + 1))).bind fun _ =>
  ref42_Split_L0 text n xs0 y0_0 (y0_1 + 1) (0 + 1) (y0_3 + 1)
  else
  if decide ((x22.toNat : Int) = 35) then
  (ref42_Split_L3 y0_3 text n 1).bind fun t3 =>
  (chk (InI (y0_3 + t3))).bind fun _ =>
  (chk (InI (y0_2 + t3))).bind fun _ =>
  ref42_Split_L0 text n xs0 y0_0 y0_1 (y0_2 + t3) (y0_3 + t3)
  else
  if ((decide ((x22.toNat : Int) ≠ 32) && decide ((x22.toNat : Int) ≠ 9)) && decide ((x22.toNat : Int) ≠ 13)) then
  (chk (0 ≤ y0_3 ∧ y0_3 ≤ (text.length : Int) ∧ (text.length : Int) ≤ (text.length : Int))).bind fun _ =>
  (ref42_take n (subL text y0_3 (text.length : Int))).bind fun x62 =>
  if decide (x62.2.2 = 0) then
  some (Fl.ret ([], 2))
  else
  (chk (y0_0.length + [(⟨x62.1, x62.2.1, y0_1, y0_2⟩ : S_ref42_Token)].length ≤ lim)).bind fun _ =>
  (chk (InI (y0_3 + x62.2.2))).bind fun _ =>
  (chk (InI (y0_2 + x62.2.2))).bind fun _ =>
  ref42_Split_L0 text n xs0 (y0_0 ++ [(⟨x62.1, x62.2.1, y0_1, y0_2⟩ : S_ref42_Token)]) y0_1 (y0_2 + x62.2.2) (y0_3 + x62.2.2)
  else
  (chk (InI (y0_3 + 1))).bind fun _ =>
  (chk (InI (y0_2 + 1))).bind fun _ =>
  ref42_Split_L0 text n xs0 y0_0 y0_1 (y0_2 + 1) (y0_3 + 1)
  else
  some (Fl.go (y0_0, y0_1, y0_2, y0_3))
noncomputable def ref42_Split (n : Nat) (text : Str) : Option ((List S_ref42_Token) × Int) :=
 if decide ((text.length : Int) > 4096) then
 some ([], 5)
 else
 (ref42_Split_L0 text n n [] 1 1 0).bind fun s0 => s0.el some fun t0 =>
 (chk (t0.1.length + ([(⟨5, ([] : Str), t0.2.1, t0.2.2.1⟩ : S_ref42_Token)]).length ≤ lim)).bind fun _ =>
 some ((t0.1 ++ [(⟨5, ([] : Str), t0.2.1, t0.2.2.1⟩ : S_ref42_Token)]), 0)
set_option maxHeartbeats 8000000 in
theorem ref42_Split_ok {n : Nat} {text : Str} {K : Hp} {r : (List S_ref42_Token) × Int}
  (hm : ref42_Split n text = some r)  :
  Fn Tryd.prog 83 [str text] K [] (fun v K' H' => ∃ ar_0 : Option Addr, ∃ cr_0 : Nat, v = .tuple #[.slice ar_0 r.1.length cr_0, .int .i64 r.2] ∧ (0 < r.1.length → Has ar_0) ∧ H' = [OwnL S_ref42_Token.enc ar_0 118 4 cr_0 r.1]) := by
 refine Fn.enter Tryd.func83 Tryd.call83 rfl fun F => ?_
 unfold ref42_Split at hm
 conv => whnf
 refine RStep.of (len_str rfl ?_)
 conv => whnf
 refine cond_go rfl ?_
 conv => whnf
 refine cond_s (fun w15 => ?_) (fun w15 => ?_)
 ·replace hm := ift w15 hm
  obtain rfl := si hm
  conv => whnf
  refine nilE S_ref42_Token.enc 118 4 ?_
  refine EndStep.mk _ (Hp.Le.refl _) ⟨none, 0, rfl, (fun h => by simp at h), rfl⟩ (ConvH.of (.cons r0 (.cons r0 .nil)))
 ·replace hm := iff_ w15 hm
  obtain ⟨s0, hl0, hm⟩ := bnd hm
  conv => whnf
  refine nilC S_ref42_Token.enc 118 4 ?_
  refine code_cut (σ := ((List S_ref42_Token) × Int × Int × Int) × Option Addr × Nat) [2, 3, 4, 5, 6, 7, 8, 9, 10, 11, 12, 16, 17, 18, 19, 20, 21, 22, 23, 24, 25, 26, 27, 28, 29, 30, 31, 32, 33, 34, 35, 36, 37, 38, 39, 40, 41, 42, 43, 44, 45, 46, 47, 48, 49, 50, 51, 52, 53, 54, 55, 56, 57, 58, 59, 60, 61, 62, 63, 64, 65, 66, 67, 68, 69, 70, 71, 72, 73, 74, 75, 76, 77, 78, 79, 80, 81, 82] (fun (t0, t0_a0, t0_c0) => [(4, .slice t0_a0 t0.1.length t0_c0), (5, .int .i64 t0.2.1), (6, .int .i64 t0.2.2.1), (7, .int .i64 t0.2.2.2)]) (fun (t0, t0_a0, t0_c0) => [OwnL S_ref42_Token.enc t0_a0 118 4 t0_c0 t0.1, F]) (fun zz K1 => match zz with | (t0, t0_a0, t0_c0) => (0 < t0.1.length → Has t0_a0) ∧ s0 = Fl.go t0) ?_ ?_
  ·refine block_go rfl ?_
   conv => whnf
   refine loop_rule (σ := Nat × (List S_ref42_Token) × Int × Int × Int × Option Addr × Nat) [2, 3, 4, 5, 6, 7, 8, 9, 10, 11, 12, 16, 17, 18, 19, 20, 21, 22, 23, 24, 25, 26, 27, 28, 29, 30, 31, 32, 33, 34, 35, 36, 37, 38, 39, 40, 41, 42, 43, 44, 45, 46, 47, 48, 49, 50, 51, 52, 53, 54, 55, 56, 57, 58, 59, 60, 61, 62, 63, 64, 65, 66, 67, 68, 69, 70, 71, 72, 73, 74, 75, 76, 77, 78, 79, 80, 81, 82] (fun (i0, y0_0, y0_1, y0_2, y0_3, y0_a0, y0_c0) => [(4, .slice y0_a0 y0_0.length y0_c0), (5, .int .i64 y0_1), (6, .int .i64 y0_2), (7, .int .i64 y0_3)]) (fun (i0, y0_0, y0_1, y0_2, y0_3, y0_a0, y0_c0) => [OwnL S_ref42_Token.enc y0_a0 118 4 y0_c0 y0_0, F]) (fun zz K1 => match zz with | (i0, y0_0, y0_1, y0_2, y0_3, y0_a0, y0_c0) => (0 < y0_0.length → Has y0_a0) ∧ ref42_Split_L0 text n i0 y0_0 y0_1 y0_2 y0_3 = some s0) (fun zz => zz.1) (n, [], 1, 1, 0, none, 0) rfl ⟨rfl, rfl, rfl, rfl, trivial⟩ (ConvH.of (.cons r0 (.cons r0 .nil))) ⟨(fun h => by simp at h), hl0⟩ ?_
   clear hl0
   rintro ⟨i0, y0_0, y0_1, y0_2, y0_3, y0_a0, y0_c0⟩ Kb0 lk0 ⟨y0_h0, hl0⟩ j0
   cases i0 with
   | zero => rw [ref42_Split_L0.eq_1] at hl0; cases hl0
   | succ i0 =>
    rw [ref42_Split_L0.eq_2] at hl0
    conv => whnf
    refine RStep.of (len_str rfl ?_)
    conv => whnf
    refine cond_go rfl ?_
    conv => whnf
    refine cond_s (fun w19 => ?_) (fun w19 => ?_)
    ·replace hl0 := ift w19 hl0
     conv => whnf
     refine block_go rfl ?_
     obtain ⟨x22, l22, k22, hl0⟩ := ixb hl0
     conv => whnf
     refine idx_str rfl l22 k22 ?_
     conv => whnf
     refine block_go rfl ?_
     conv => whnf
     refine eq_int ?_
     conv => whnf
     refine CStep.ownLe r0 fun hc3 => ?_
     conv => whnf
     refine cond_go rfl ?_
     conv => whnf
     refine cond_s (fun w23 => ?_) (fun w23 => ?_)
     ·replace hl0 := ift w23 hl0
      obtain ⟨h27, hl0⟩ := chkb hl0
      conv => whnf
      refine int_in h27 ?_
      obtain ⟨h79, hl0⟩ := chkb hl0
      conv => whnf
      refine int_in h79 ?_
      obtain ⟨h82, hl0⟩ := chkb hl0
      conv => whnf
      refine int_in h82 ?_
      conv => whnf
      refine RoundStep.mk (i0, y0_0, (y0_1 + 1), (0 + 1), (y0_3 + 1), y0_a0, y0_c0) ⟨rfl, rfl, rfl, rfl, trivial⟩ (by repeat (first | exact trivial | refine And.intro rfl ?_)) (ConvH.of (.cons r0 (.cons r0 .nil))) lk0 (Nat.lt_succ_self _) ⟨y0_h0, hl0⟩
     ·replace hl0 := iff_ w23 hl0
      conv => whnf
      refine eq_int ?_
      conv => whnf
      refine CStep.ownLe r0 fun hc5 => ?_
      conv => whnf
      refine cond_go rfl ?_
      conv => whnf
      refine cond_s (fun w28 => ?_) (fun w28 => ?_)
      ·replace hl0 := ift w28 hl0
       obtain ⟨s3, hl3, hl0⟩ := bnd hl0
       conv => whnf
       refine code_cut (σ := (Int)) [9, 31, 32, 33, 34, 35, 36, 37, 38, 39, 40, 41, 42, 43, 44, 45, 46] (fun t3 => [(9, .int .i64 t3)]) (fun t3 => [OwnL S_ref42_Token.enc y0_a0 118 4 y0_c0 y0_0, F]) (fun zz K1 => match zz with | t3 => t3 = s3) ?_ ?_
       ·refine block_go rfl ?_
        conv => whnf
        refine loop_rule (σ := Nat × Int) [9, 31, 32, 33, 34, 35, 36, 37, 38, 39, 40, 41, 42, 43, 44, 45, 46] (fun (i3, y3_0) => [(9, .int .i64 y3_0)]) (fun (i3, y3_0) => [OwnL S_ref42_Token.enc y0_a0 118 4 y0_c0 y0_0, F]) (fun zz K1 => match zz with | (i3, y3_0) => ref42_Split_L3 y0_3 text i3 y3_0 = some s3) (fun zz => zz.1) (n, 1) rfl ⟨rfl, trivial⟩ (ConvH.of (.cons r0 (.cons r0 .nil))) hl3 ?_
        clear hl3
        rintro ⟨i3, y3_0⟩ Kb3 lk3 hl3 j3
        conv at hl3 => whnf
        cases i3 with
        | zero => rw [ref42_Split_L3.eq_1] at hl3; cases hl3
        | succ i3 =>
         rw [ref42_Split_L3.eq_2] at hl3
         obtain ⟨h33, hl3⟩ := chkb hl3
         conv => whnf
         refine int_in h33 ?_
         conv => whnf
         refine RStep.of (len_str rfl ?_)
         obtain ⟨x44, e44, hl3⟩ := bnd hl3
         conv => whnf
         refine cond_s (fun g37_12 => ?_) (fun g37_12 => ?_)
         ·replace e44 := ift g37_12 e44
          conv => whnf
          refine cond_t g37_12 ?_
          conv => whnf
          refine cond_t g37_12 ?_
          conv => whnf
          refine cond_t g37_12 ?_
          obtain ⟨h41, e44⟩ := chkb e44
          conv => whnf
          refine int_in h41 ?_
          conv => whnf
          refine cond_t g37_12 ?_
          obtain ⟨x42, l42, k42, e44⟩ := ixb e44
          conv => whnf
          refine idx_str rfl l42 k42 ?_
          conv => whnf
          refine cond_t g37_12 ?_
          conv => whnf
          refine neq_int ?_
          conv => whnf
          refine cond_t g37_12 ?_
          conv => whnf
          refine cond_go rfl ?_
          conv => whnf
          refine cond_s (fun w44 => ?_) (fun w44 => ?_)
          ·replace hl3 := ift ((si e44).symm.trans w44) hl3
           conv => whnf
           refine block_go rfl ?_
           obtain ⟨h46, hl3⟩ := chkb hl3
           conv => whnf
           refine int_in h46 ?_
           conv => whnf
           refine RoundStep.mk (i3, (y3_0 + 1)) ⟨rfl, trivial⟩ (by repeat (first | exact trivial | refine And.intro rfl ?_)) (ConvH.of (.cons r0 (.cons r0 .nil))) lk3 (Nat.lt_succ_self _) hl3
          ·replace hl3 := iff_ ((si e44).symm.trans w44) hl3
           conv => whnf
           refine cond_T ?_
           conv => whnf
           refine MeetStep.mk (y3_0) ⟨rfl, trivial⟩ (by repeat (first | exact trivial | refine And.intro rfl ?_)) (ConvH.of (.cons r0 (.cons r0 .nil))) lk3 (si hl3)
         ·replace e44 := iff_ g37_12 e44
          conv => whnf
          refine cond_f g37_12 ?_
          conv => whnf
          refine cond_f g37_12 ?_
          conv => whnf
          refine cond_f g37_12 ?_
          conv => whnf
          refine cond_f g37_12 ?_
          conv => whnf
          refine cond_f g37_12 ?_
          conv => whnf
          refine cond_f g37_12 ?_
          conv => whnf
          refine cond_go rfl ?_
          conv => whnf
          refine cond_F ?_
          replace hl3 := iff_ (si e44).symm hl3
          conv => whnf
          refine cond_T ?_
          conv => whnf
          refine MeetStep.mk (y3_0) ⟨rfl, trivial⟩ (by repeat (first | exact trivial | refine And.intro rfl ?_)) (ConvH.of (.cons r0 (.cons r0 .nil))) lk3 (si hl3)
       ·rintro t3 Kt3 lt3 rfl j3
        obtain ⟨h79, hl0⟩ := chkb hl0
        conv => whnf
        refine int_in h79 ?_
        obtain ⟨h82, hl0⟩ := chkb hl0
        conv => whnf
        refine int_in h82 ?_
        conv => whnf
        refine RoundStep.mk (i0, y0_0, y0_1, (y0_2 + t3), (y0_3 + t3), y0_a0, y0_c0) ⟨rfl, rfl, rfl, rfl, trivial⟩ (by repeat (first | exact trivial | refine And.intro rfl ?_)) (ConvH.of (.cons r0 (.cons r0 .nil))) (lk0.trans lt3) (Nat.lt_succ_self _) ⟨y0_h0, hl0⟩
      ·replace hl0 := iff_ w28 hl0
       conv => whnf
       refine neq_int ?_
       conv => whnf
       refine cond_s (fun g50_14 => ?_) (fun g50_14 => ?_)
       ·conv => whnf
        refine cond_t g50_14 ?_
        conv => whnf
        refine neq_int ?_
        conv => whnf
        refine cond_t g50_14 ?_
        conv => whnf
        refine cond_s (fun g54_14 => ?_) (fun g54_14 => ?_)
        ·conv => whnf
         refine cond_t g54_14 ?_
         conv => whnf
         refine neq_int ?_
         conv => whnf
         refine cond_t g54_14 ?_
         conv => whnf
         refine CStep.ownLe r0 fun hc8 => ?_
         conv => whnf
         refine cond_go rfl ?_
         conv => whnf
         refine cond_s (fun w47 => ?_) (fun w47 => ?_)
         ·replace hl0 := ift (and_t (and_t g50_14 g54_14) w47) hl0
          obtain ⟨h61, hl0⟩ := chkb hl0
          conv => whnf
          refine RStep.ofN (sl_str (lo := (some y0_3)) (hi := none) rfl h61 ?_)
          obtain ⟨x62, q62, hl0⟩ := bnd hl0
          conv => whnf
          refine call_fn (ref42_take_ok (s := (subL text y0_3 (text.length : Int))) q62) .nil ?_
          rintro _ K62 _ l62 ⟨rfl, rfl⟩
          conv => whnf
          refine eq_int ?_
          conv => whnf
          refine cond_go rfl ?_
          conv => whnf
          refine cond_s (fun w67 => ?_) (fun w67 => ?_)
          ·replace hl0 := ift w67 hl0
           obtain rfl := si hl0
           replace hm := elr hm
           obtain rfl := si hm
           conv => whnf
           refine nilE S_ref42_Token.enc 118 4 ?_
           refine EndStep.mk _ (lk0.trans l62) ⟨none, 0, rfl, (fun h => by simp at h), rfl⟩ (ConvH.of (.cons r0 (.cons r1 .nil)))
          ·replace hl0 := iff_ w67 hl0
           conv => whnf
           refine build_struct rfl rfl ?_
           conv => whnf
           refine cond_T ?_
           conv => whnf
           refine cond_T ?_
           conv => whnf
           refine cond_T ?_
           conv => whnf
           refine cond_T ?_
           conv => whnf
           refine bsO (len := 1) (enc := S_ref42_Token.enc) (l := [(⟨x62.1, x62.2.1, y0_1, y0_2⟩ : S_ref42_Token)]) (cl := [.int .i64 x62.1, str x62.2.1, .int .i64 y0_1, .int .i64 y0_2]) elT115 rfl rfl (fun _ _ => rfl) rfl rfl rfl ?_ fun b74 => ?_
           ·conv => whnf
            refine cond_T ?_
            conv => whnf
            first | done | rfl
           obtain ⟨h75, hl0⟩ := chkb hl0
           conv => whnf
           refine apE rfl r1 elT115 (src_own' rfl r0 rfl (fun _ => rfl) (fun _ => rfl)) h75 ?_
           intro a75 c75 o75
           obtain ⟨h79, hl0⟩ := chkb hl0
           conv => whnf
           refine int_in h79 ?_
           obtain ⟨h82, hl0⟩ := chkb hl0
           conv => whnf
           refine int_in h82 ?_
           conv => whnf
           refine RoundStep.mk (i0, (y0_0 ++ [(⟨x62.1, x62.2.1, y0_1, y0_2⟩ : S_ref42_Token)]), y0_1, (y0_2 + x62.2.2), (y0_3 + x62.2.2), a75, c75) ⟨rfl, rfl, rfl, rfl, trivial⟩ (by repeat (first | exact trivial | refine And.intro rfl ?_)) (ConvH.of (.cons r0 (.cons r1 .nil))) (lk0.trans l62) (Nat.lt_succ_self _) ⟨o75, hl0⟩
         ·replace hl0 := iff_ (and_g (and_t g50_14 g54_14) w47) hl0
          obtain ⟨h79, hl0⟩ := chkb hl0
          conv => whnf
          refine int_in h79 ?_
          obtain ⟨h82, hl0⟩ := chkb hl0
          conv => whnf
          refine int_in h82 ?_
          conv => whnf
          refine RoundStep.mk (i0, y0_0, y0_1, (y0_2 + 1), (y0_3 + 1), y0_a0, y0_c0) ⟨rfl, rfl, rfl, rfl, trivial⟩ (by repeat (first | exact trivial | refine And.intro rfl ?_)) (ConvH.of (.cons r0 (.cons r0 .nil))) lk0 (Nat.lt_succ_self _) ⟨y0_h0, hl0⟩
        ·conv => whnf
         refine cond_f g54_14 ?_
         conv => whnf
         refine cond_f g54_14 ?_
         conv => whnf
         refine CStep.ownLe r0 fun hc11 => ?_
         conv => whnf
         refine cond_go rfl ?_
         conv => whnf
         refine cond_F ?_
         replace hl0 := iff_ (and_f (and_g g50_14 g54_14)) hl0
         obtain ⟨h79, hl0⟩ := chkb hl0
         conv => whnf
         refine int_in h79 ?_
         obtain ⟨h82, hl0⟩ := chkb hl0
         conv => whnf
         refine int_in h82 ?_
         conv => whnf
         refine RoundStep.mk (i0, y0_0, y0_1, (y0_2 + 1), (y0_3 + 1), y0_a0, y0_c0) ⟨rfl, rfl, rfl, rfl, trivial⟩ (by repeat (first | exact trivial | refine And.intro rfl ?_)) (ConvH.of (.cons r0 (.cons r0 .nil))) lk0 (Nat.lt_succ_self _) ⟨y0_h0, hl0⟩
       ·conv => whnf
        refine cond_f g50_14 ?_
        conv => whnf
        refine cond_f g50_14 ?_
        conv => whnf
        refine cond_F ?_
        conv => whnf
        refine cond_F ?_
        conv => whnf
        refine cond_F ?_
        conv => whnf
        refine CStep.ownLe r0 fun hc12 => ?_
        conv => whnf
        refine cond_go rfl ?_
        conv => whnf
        refine cond_F ?_
        replace hl0 := iff_ (and_f (and_f g50_14)) hl0
        obtain ⟨h79, hl0⟩ := chkb hl0
        conv => whnf
        refine int_in h79 ?_
        obtain ⟨h82, hl0⟩ := chkb hl0
        conv => whnf
        refine int_in h82 ?_
        conv => whnf
        refine RoundStep.mk (i0, y0_0, y0_1, (y0_2 + 1), (y0_3 + 1), y0_a0, y0_c0) ⟨rfl, rfl, rfl, rfl, trivial⟩ (by repeat (first | exact trivial | refine And.intro rfl ?_)) (ConvH.of (.cons r0 (.cons r0 .nil))) lk0 (Nat.lt_succ_self _) ⟨y0_h0, hl0⟩
    ·replace hl0 := iff_ w19 hl0
     conv => whnf
     refine cond_T ?_
     conv => whnf
     refine MeetStep.mk ((y0_0, y0_1, y0_2, y0_3), y0_a0, y0_c0) ⟨rfl, rfl, rfl, rfl, trivial⟩ (by repeat (first | exact trivial | refine And.intro rfl ?_)) (ConvH.of (.cons r0 (.cons r0 .nil))) lk0 ⟨y0_h0, (si hl0).symm⟩
  ·rintro ⟨t0, t0_a0, t0_c0⟩ Kt0 lt0 ⟨t0_h0, rfl⟩ j0
   replace hm := elg hm
   conv => whnf
   refine build_struct rfl rfl ?_
   conv => whnf
   refine cond_T ?_
   conv => whnf
   refine cond_T ?_
   conv => whnf
   refine cond_T ?_
   conv => whnf
   refine cond_T ?_
   conv => whnf
   refine bsO (len := 1) (enc := S_ref42_Token.enc) (l := [(⟨5, ([] : Str), t0.2.1, t0.2.2.1⟩ : S_ref42_Token)]) (cl := [.int .i64 5, str ([] : Str), .int .i64 t0.2.1, .int .i64 t0.2.2.1]) elT115 rfl rfl (fun _ _ => rfl) rfl rfl rfl ?_ fun b87 => ?_
   ·conv => whnf
    refine cond_T ?_
    conv => whnf
    first | done | rfl
   obtain ⟨h88, hm⟩ := chkb hm
   conv => whnf
   refine apE rfl r1 elT115 (src_own' rfl r0 rfl (fun _ => rfl) (fun _ => rfl)) h88 ?_
   intro a88 c88 o88
   obtain rfl := si hm
   conv => whnf
   refine EndStep.mk _ lt0 ⟨a88, c88, rfl, o88, rfl⟩ (ConvH.of (.cons r0 (.cons r1 .nil)))

noncomputable def ref43_token (n : Nat) (s : Str) (kind : Int) : Option (Bool) :=
 (ref42_Split n s).bind fun x9 =>
 (if (decide (x9.2 = 0) && decide ((x9.1.length : Int) = 2)) then (ix x9.1 0).bind fun x21 =>
 some (decide (x21.Kind = kind)) else some false).bind fun x26 =>
 (if x26 then (ix x9.1 0).bind fun x29 =>
 some (decide (x29.Text = s)) else some false).bind fun x34 =>
 (if x34 then (ix x9.1 0).bind fun x37 =>
 some (decide (x37.Column = 1)) else some false).bind fun x41 =>
 (if x41 then (ix x9.1 1).bind fun x44 =>
 (chk (InI ((s.length : Int) + 1))).bind fun _ =>
 some (decide (x44.Column = ((s.length : Int) + 1))) else some false).bind fun x51 =>
 (if x51 then (ix x9.1 1).bind fun x54 =>
 some (decide (x54.Line = 1)) else some false).bind fun x58 =>
 some x58
set_option maxHeartbeats 8000000 in
theorem ref43_token_ok {n : Nat} {s : Str} {kind : Int} {K : Hp} {r : Bool}
  (hm : ref43_token n s kind = some r)  :
  Fn Tryd.prog 76 [str s, .int .i64 kind] K [] (fun v K' H' => v = .bool r ∧ H' = []) := by
 refine Fn.enter Tryd.func76 Tryd.call76 rfl fun F => ?_
 unfold ref43_token at hm
 obtain ⟨x9, q9, hm⟩ := bnd hm
 conv => whnf
 refine call_fn (ref42_Split_ok (text := s) q9) .nil ?_
 rintro _ K9 _ l9 ⟨a9_0, c9_0, rfl, h9_0, rfl⟩
 conv => whnf
 refine eq_int ?_
 conv => whnf
 refine cond_s (fun g14_2 => ?_) (fun g14_2 => ?_)
 ·conv => whnf
  refine cond_t g14_2 ?_
  conv => whnf
  refine RStep.of (len_slice rfl ?_)
  conv => whnf
  refine cond_t g14_2 ?_
  conv => whnf
  refine eq_int ?_
  conv => whnf
  refine cond_t g14_2 ?_
  obtain ⟨x26, e26, hm⟩ := bnd hm
  conv => whnf
  refine cond_s (fun g19_2 => ?_) (fun g19_2 => ?_)
  ·replace e26 := ift (and_t g14_2 g19_2) e26
   conv => whnf
   refine cond_t g19_2 ?_
   obtain ⟨x21, l21, k21, e26⟩ := ixb e26
   conv => whnf
   refine RStep.ofN (index_addr rfl rfl (hasO h9_0 k21) l21 (lt_ofE rfl l21 k21) ?_)
   conv => whnf
   refine cond_t g19_2 ?_
   conv => whnf
   refine eptr_field rfl (hasO h9_0 k21) ?_
   conv => whnf
   refine cond_t g19_2 ?_
   conv => whnf
   refine RStep.of (ld_own (i := (0 : Int).toNat) (o := 0) r0 rfl k21 rfl rfl ?_)
   conv => whnf
   refine cond_t g19_2 ?_
   conv => whnf
   refine cond_t g19_2 ?_
   conv => whnf
   refine eq_int ?_
   conv => whnf
   refine cond_t g19_2 ?_
   obtain ⟨x34, e34, hm⟩ := bnd hm
   conv => whnf
   refine cond_s (fun g27_2 => ?_) (fun g27_2 => ?_)
   ·replace e34 := ift ((si e26).symm.trans g27_2) e34
    conv => whnf
    refine cond_t g27_2 ?_
    obtain ⟨x29, l29, k29, e34⟩ := ixb e34
    conv => whnf
    refine RStep.ofN (index_addr rfl rfl (hasO h9_0 k29) l29 (lt_ofE rfl l29 k29) ?_)
    conv => whnf
    refine cond_t g27_2 ?_
    conv => whnf
    refine eptr_field rfl (hasO h9_0 k29) ?_
    conv => whnf
    refine cond_t g27_2 ?_
    conv => whnf
    refine RStep.of (ld_own (i := (0 : Int).toNat) (o := 1) r0 rfl k29 rfl rfl ?_)
    conv => whnf
    refine cond_t g27_2 ?_
    conv => whnf
    refine cond_t g27_2 ?_
    conv => whnf
    refine eq_str ?_
    conv => whnf
    refine cond_t g27_2 ?_
    obtain ⟨x41, e41, hm⟩ := bnd hm
    conv => whnf
    refine cond_s (fun g35_2 => ?_) (fun g35_2 => ?_)
    ·replace e41 := ift ((si e34).symm.trans g35_2) e41
     conv => whnf
     refine cond_t g35_2 ?_
     obtain ⟨x37, l37, k37, e41⟩ := ixb e41
     conv => whnf
     refine RStep.ofN (index_addr rfl rfl (hasO h9_0 k37) l37 (lt_ofE rfl l37 k37) ?_)
     conv => whnf
     refine cond_t g35_2 ?_
     conv => whnf
     refine eptr_field rfl (hasO h9_0 k37) ?_
     conv => whnf
     refine cond_t g35_2 ?_
     conv => whnf
     refine RStep.of (ld_own (i := (0 : Int).toNat) (o := 3) r0 rfl k37 rfl rfl ?_)
     conv => whnf
     refine cond_t g35_2 ?_
     conv => whnf
     refine eq_int ?_
     conv => whnf
     refine cond_t g35_2 ?_
     obtain ⟨x51, e51, hm⟩ := bnd hm
     conv => whnf
     refine cond_s (fun g42_2 => ?_) (fun g42_2 => ?_)
     ·replace e51 := ift ((si e41).symm.trans g42_2) e51
      conv => whnf
      refine cond_t g42_2 ?_
      obtain ⟨x44, l44, k44, e51⟩ := ixb e51
      conv => whnf
      refine RStep.ofN (index_addr rfl rfl (hasO h9_0 k44) l44 (lt_ofE rfl l44 k44) ?_)
      conv => whnf
      refine cond_t g42_2 ?_
      conv => whnf
      refine eptr_field rfl (hasO h9_0 k44) ?_
      conv => whnf
      refine cond_t g42_2 ?_
      conv => whnf
      refine RStep.of (ld_own (i := (1 : Int).toNat) (o := 3) r0 rfl k44 rfl rfl ?_)
      conv => whnf
      refine cond_t g42_2 ?_
      conv => whnf
      refine cond_t g42_2 ?_
      conv => whnf
      refine RStep.of (len_str rfl ?_)
      conv => whnf
      refine cond_t g42_2 ?_
      obtain ⟨h49, e51⟩ := chkb e51
      conv => whnf
      refine int_in h49 ?_
      conv => whnf
      refine cond_t g42_2 ?_
      conv => whnf
      refine eq_int ?_
      conv => whnf
      refine cond_t g42_2 ?_
      obtain ⟨x58, e58, hm⟩ := bnd hm
      conv => whnf
      refine cond_s (fun g52_2 => ?_) (fun g52_2 => ?_)
      ·replace e58 := ift ((si e51).symm.trans g52_2) e58
       conv => whnf
       refine cond_t g52_2 ?_
       obtain ⟨x54, l54, k54, e58⟩ := ixb e58
       conv => whnf
       refine RStep.ofN (index_addr rfl rfl (hasO h9_0 k54) l54 (lt_ofE rfl l54 k54) ?_)
       conv => whnf
       refine cond_t g52_2 ?_
       conv => whnf
       refine eptr_field rfl (hasO h9_0 k54) ?_
       conv => whnf
       refine cond_t g52_2 ?_
       conv => whnf
       refine RStep.of (ld_own (i := (1 : Int).toNat) (o := 2) r0 rfl k54 rfl rfl ?_)
       conv => whnf
       refine cond_t g52_2 ?_
       conv => whnf
       refine eq_int ?_
       conv => whnf
       refine cond_t g52_2 ?_
       obtain rfl := si hm
       conv => whnf
       refine EndStep.mk _ l9 ⟨(by rw [← (si e58)] <;> rfl), rfl⟩ (ConvH.of (.cons r1 .nil))
      ·replace e58 := iff_ ((si e51).symm.trans g52_2) e58
       conv => whnf
       refine cond_f g52_2 ?_
       conv => whnf
       refine cond_f g52_2 ?_
       conv => whnf
       refine cond_f g52_2 ?_
       conv => whnf
       refine cond_f g52_2 ?_
       conv => whnf
       refine cond_f g52_2 ?_
       obtain rfl := si hm
       conv => whnf
       refine EndStep.mk _ l9 ⟨(by rw [← ((si e58).symm).symm] <;> rfl), rfl⟩ (ConvH.of (.cons r1 .nil))
     ·replace e51 := iff_ ((si e41).symm.trans g42_2) e51
      conv => whnf
      refine cond_f g42_2 ?_
      conv => whnf
      refine cond_f g42_2 ?_
      conv => whnf
      refine cond_f g42_2 ?_
      conv => whnf
      refine cond_f g42_2 ?_
      conv => whnf
      refine cond_f g42_2 ?_
      conv => whnf
      refine cond_f g42_2 ?_
      conv => whnf
      refine cond_f g42_2 ?_
      conv => whnf
      refine cond_f g42_2 ?_
      obtain ⟨x58, e58, hm⟩ := bnd hm
      replace e58 := iff_ (si e51).symm e58
      conv => whnf
      refine cond_F ?_
      conv => whnf
      refine cond_F ?_
      conv => whnf
      refine cond_F ?_
      conv => whnf
      refine cond_F ?_
      conv => whnf
      refine cond_F ?_
      conv => whnf
      refine cond_F ?_
      obtain rfl := si hm
      conv => whnf
      refine EndStep.mk _ l9 ⟨(by rw [← ((si e58).symm).symm] <;> rfl), rfl⟩ (ConvH.of (.cons r1 .nil))
    ·replace e41 := iff_ ((si e34).symm.trans g35_2) e41
     conv => whnf
     refine cond_f g35_2 ?_
     conv => whnf
     refine cond_f g35_2 ?_
     conv => whnf
     refine cond_f g35_2 ?_
     conv => whnf
     refine cond_f g35_2 ?_
     conv => whnf
     refine cond_f g35_2 ?_
     obtain ⟨x51, e51, hm⟩ := bnd hm
     replace e51 := iff_ (si e41).symm e51
     conv => whnf
     refine cond_F ?_
     conv => whnf
     refine cond_F ?_
     conv => whnf
     refine cond_F ?_
     conv => whnf
     refine cond_F ?_
     conv => whnf
     refine cond_F ?_
     conv => whnf
     refine cond_F ?_
     conv => whnf
     refine cond_F ?_
     conv => whnf
     refine cond_F ?_
     conv => whnf
     refine cond_F ?_
     obtain ⟨x58, e58, hm⟩ := bnd hm
     replace e58 := iff_ (si e51).symm e58
     conv => whnf
     refine cond_F ?_
     conv => whnf
     refine cond_F ?_
     conv => whnf
     refine cond_F ?_
     conv => whnf
     refine cond_F ?_
     conv => whnf
     refine cond_F ?_
     conv => whnf
     refine cond_F ?_
     obtain rfl := si hm
     conv => whnf
     refine EndStep.mk _ l9 ⟨(by rw [← ((si e58).symm).symm] <;> rfl), rfl⟩ (ConvH.of (.cons r1 .nil))
   ·replace e34 := iff_ ((si e26).symm.trans g27_2) e34
    conv => whnf
    refine cond_f g27_2 ?_
    conv => whnf
    refine cond_f g27_2 ?_
    conv => whnf
    refine cond_f g27_2 ?_
    conv => whnf
    refine cond_f g27_2 ?_
    conv => whnf
    refine cond_f g27_2 ?_
    conv => whnf
    refine cond_f g27_2 ?_
    obtain ⟨x41, e41, hm⟩ := bnd hm
    replace e41 := iff_ (si e34).symm e41
    conv => whnf
    refine cond_F ?_
    conv => whnf
    refine cond_F ?_
    conv => whnf
    refine cond_F ?_
    conv => whnf
    refine cond_F ?_
    conv => whnf
    refine cond_F ?_
    conv => whnf
    refine cond_F ?_
    obtain ⟨x51, e51, hm⟩ := bnd hm
    replace e51 := iff_ (si e41).symm e51
    conv => whnf
    refine cond_F ?_
    conv => whnf
    refine cond_F ?_
    conv => whnf
    refine cond_F ?_
    conv => whnf
    refine cond_F ?_
    conv => whnf
    refine cond_F ?_
    conv => whnf
    refine cond_F ?_
    conv => whnf
    refine cond_F ?_
    conv => whnf
    refine cond_F ?_
    conv => whnf
    refine cond_F ?_
    obtain ⟨x58, e58, hm⟩ := bnd hm
    replace e58 := iff_ (si e51).symm e58
    conv => whnf
    refine cond_F ?_
    conv => whnf
    refine cond_F ?_
    conv => whnf
    refine cond_F ?_
    conv => whnf
    refine cond_F ?_
    conv => whnf
    refine cond_F ?_
    conv => whnf
    refine cond_F ?_
    obtain rfl := si hm
    conv => whnf
    refine EndStep.mk _ l9 ⟨(by rw [← ((si e58).symm).symm] <;> rfl), rfl⟩ (ConvH.of (.cons r1 .nil))
  ·replace e26 := iff_ (and_g g14_2 g19_2) e26
   conv => whnf
   refine cond_f g19_2 ?_
   conv => whnf
   refine cond_f g19_2 ?_
   conv => whnf
   refine cond_f g19_2 ?_
   conv => whnf
   refine cond_f g19_2 ?_
   conv => whnf
   refine cond_f g19_2 ?_
   conv => whnf
   refine cond_f g19_2 ?_
   obtain ⟨x34, e34, hm⟩ := bnd hm
   replace e34 := iff_ (si e26).symm e34
   conv => whnf
   refine cond_F ?_
   conv => whnf
   refine cond_F ?_
   conv => whnf
   refine cond_F ?_
   conv => whnf
   refine cond_F ?_
   conv => whnf
   refine cond_F ?_
   conv => whnf
   refine cond_F ?_
   conv => whnf
   refine cond_F ?_
   obtain ⟨x41, e41, hm⟩ := bnd hm
   replace e41 := iff_ (si e34).symm e41
   conv => whnf
   refine cond_F ?_
   conv => whnf
   refine cond_F ?_
   conv => whnf
   refine cond_F ?_
   conv => whnf
   refine cond_F ?_
   conv => whnf
   refine cond_F ?_
   conv => whnf
   refine cond_F ?_
   obtain ⟨x51, e51, hm⟩ := bnd hm
   replace e51 := iff_ (si e41).symm e51
   conv => whnf
   refine cond_F ?_
   conv => whnf
   refine cond_F ?_
   conv => whnf
   refine cond_F ?_
   conv => whnf
   refine cond_F ?_
   conv => whnf
   refine cond_F ?_
   conv => whnf
   refine cond_F ?_
   conv => whnf
   refine cond_F ?_
   conv => whnf
   refine cond_F ?_
   conv => whnf
   refine cond_F ?_
   obtain ⟨x58, e58, hm⟩ := bnd hm
   replace e58 := iff_ (si e51).symm e58
   conv => whnf
   refine cond_F ?_
   conv => whnf
   refine cond_F ?_
   conv => whnf
   refine cond_F ?_
   conv => whnf
   refine cond_F ?_
   conv => whnf
   refine cond_F ?_
   conv => whnf
   refine cond_F ?_
   obtain rfl := si hm
   conv => whnf
   refine EndStep.mk _ l9 ⟨(by rw [← ((si e58).symm).symm] <;> rfl), rfl⟩ (ConvH.of (.cons r1 .nil))
 ·conv => whnf
  refine cond_f g14_2 ?_
  conv => whnf
  refine cond_f g14_2 ?_
  conv => whnf
  refine cond_f g14_2 ?_
  obtain ⟨x26, e26, hm⟩ := bnd hm
  replace e26 := iff_ (and_f g14_2) e26
  conv => whnf
  refine cond_F ?_
  conv => whnf
  refine cond_F ?_
  conv => whnf
  refine cond_F ?_
  conv => whnf
  refine cond_F ?_
  conv => whnf
  refine cond_F ?_
  conv => whnf
  refine cond_F ?_
  conv => whnf
  refine cond_F ?_
  obtain ⟨x34, e34, hm⟩ := bnd hm
  replace e34 := iff_ (si e26).symm e34
  conv => whnf
  refine cond_F ?_
  conv => whnf
  refine cond_F ?_
  conv => whnf
  refine cond_F ?_
  conv => whnf
  refine cond_F ?_
  conv => whnf
  refine cond_F ?_
  conv => whnf
  refine cond_F ?_
  conv => whnf
  refine cond_F ?_
  obtain ⟨x41, e41, hm⟩ := bnd hm
  replace e41 := iff_ (si e34).symm e41
  conv => whnf
  refine cond_F ?_
  conv => whnf
  refine cond_F ?_
  conv => whnf
  refine cond_F ?_
  conv => whnf
  refine cond_F ?_
  conv => whnf
  refine cond_F ?_
  conv => whnf
  refine cond_F ?_
  obtain ⟨x51, e51, hm⟩ := bnd hm
  replace e51 := iff_ (si e41).symm e51
  conv => whnf
  refine cond_F ?_
  conv => whnf
  refine cond_F ?_
  conv => whnf
  refine cond_F ?_
  conv => whnf
  refine cond_F ?_
  conv => whnf
  refine cond_F ?_
  conv => whnf
  refine cond_F ?_
  conv => whnf
  refine cond_F ?_
  conv => whnf
  refine cond_F ?_
  conv => whnf
  refine cond_F ?_
  obtain ⟨x58, e58, hm⟩ := bnd hm
  replace e58 := iff_ (si e51).symm e58
  conv => whnf
  refine cond_F ?_
  conv => whnf
  refine cond_F ?_
  conv => whnf
  refine cond_F ?_
  conv => whnf
  refine cond_F ?_
  conv => whnf
  refine cond_F ?_
  conv => whnf
  refine cond_F ?_
  obtain rfl := si hm
  conv => whnf
  refine EndStep.mk _ l9 ⟨(by rw [← ((si e58).symm).symm] <;> rfl), rfl⟩ (ConvH.of (.cons r1 .nil))

noncomputable def ref42_Quote_L0 (s : Str) : List UInt8 → Nat → Str → Option (Fl (Str × Bool) (Str))
 | [], _, y0_0 => some (Fl.go y0_0)
 | e0 :: xs0, i0, y0_0 =>
  (if decide ((e0.toNat : Int) < 32) then some true else some (decide ((e0.toNat : Int) > 126))).bind fun x20 =>
  if x20 then
  some (Fl.ret (([] : Str), false))
  else
  (if decide ((e0.toNat : Int) = 34) then some true else some (decide ((e0.toNat : Int) = 92))).bind fun x30 =>
  if x30 then
  (chk (y0_0.length + ([(92 : UInt8)] : Str).length ≤ lim)).bind fun _ =>
  (chk (0 ≤ (i0 : Int) ∧ (i0 : Int) ≤ ((i0 : Int) + 1) ∧ ((i0 : Int) + 1) ≤ (s.length : Int))).bind fun _ =>
  (chk ((y0_0 ++ ([(92 : UInt8)] : Str)).length + (subL s (i0 : Int) ((i0 : Int) + 1)).length ≤ lim)).bind fun _ =>
  ref42_Quote_L0 s xs0 (i0 + 1) ((y0_0 ++ ([(92 : UInt8)] : Str)) ++ (subL s (i0 : Int) ((i0 : Int) + 1)))
  else
  (chk (0 ≤ (i0 : Int) ∧ (i0 : Int) ≤ ((i0 : Int) + 1) ∧ ((i0 : Int) + 1) ≤ (s.length : Int))).bind fun _ =>
  (chk (y0_0.length + (subL s (i0 : Int) ((i0 : Int) + 1)).length ≤ lim)).bind fun _ =>
  ref42_Quote_L0 s xs0 (i0 + 1) (y0_0 ++ (subL s (i0 : Int) ((i0 : Int) + 1)))
noncomputable def ref42_Quote (s : Str) : Option (Str × Bool) :=
 (chk (s.length ≤ szMax)).bind fun _ =>
 (ref42_Quote_L0 s s 0 ([34] : Str)).bind fun s0 => s0.el some fun t0 =>
 (chk (t0.length + ([34] : Str).length ≤ lim)).bind fun _ =>
 some ((t0 ++ ([34] : Str)), true)
set_option maxHeartbeats 8000000 in
theorem ref42_Quote_ok {s : Str} {K : Hp} {r : Str × Bool}
  (hm : ref42_Quote s = some r)  :
  Fn Tryd.prog 78 [str s] K [] (fun v K' H' => v = .tuple #[str r.1, .bool r.2] ∧ H' = []) := by
 refine Fn.enter Tryd.func78 Tryd.call78 rfl fun F => ?_
 unfold ref42_Quote at hm
 conv => whnf
 refine RStep.of (len_str rfl ?_)
 obtain ⟨hk0, hm⟩ := chkb hm
 obtain ⟨s0, hl0, hm⟩ := bnd hm
 conv => whnf
 refine code_cut (σ := (Str)) [2, 3, 4, 5, 8, 9, 10, 11, 12, 13, 14, 15, 16, 17, 18, 19, 20, 21, 22, 23, 24, 25, 26, 27, 28, 29, 30, 31, 32, 33, 34, 35, 36, 37, 38, 39, 40, 41, 42] (fun t0 => [(4, str t0)]) (fun t0 => [F]) (fun zz K1 => match zz with | t0 => s0 = Fl.go t0) ?_ ?_
 ·refine block_go rfl ?_
  conv => whnf
  refine loop_rule (σ := Nat × Str) [2, 3, 4, 5, 8, 9, 10, 11, 12, 13, 14, 15, 16, 17, 18, 19, 20, 21, 22, 23, 24, 25, 26, 27, 28, 29, 30, 31, 32, 33, 34, 35, 36, 37, 38, 39, 40, 41, 42] (fun (i0, y0_0) => [(8, .int .i64 (i0 : Int)), (4, str y0_0)]) (fun (i0, y0_0) => [F]) (fun zz K1 => match zz with | (i0, y0_0) => ref42_Quote_L0 s (s.drop i0) i0 y0_0 = some s0) (fun zz => s.length - zz.1) (0, ([34] : Str)) rfl ⟨rfl, rfl, trivial⟩ (ConvH.of (.cons r0 .nil)) hl0 ?_
  clear hl0
  rintro ⟨i0, y0_0⟩ Kb0 lk0 hl0 j0
  conv at hl0 => whnf
  conv => whnf
  refine cond_go rfl ?_
  conv => whnf
  refine cond_s (fun w0 => ?_) (fun w0 => ?_)
  ·obtain ⟨e0, hx0, hd0⟩ := ltx w0
   rw [hd0, ref42_Quote_L0.eq_2] at hl0
   conv => whnf
   refine block_go rfl ?_
   conv => whnf
   refine idx_str rfl (nn _) hx0 ?_
   obtain ⟨x20, e20, hl0⟩ := bnd hl0
   conv => whnf
   refine cond_s (fun g15_5 => ?_) (fun g15_5 => ?_)
   ·replace e20 := ift g15_5 e20
    conv => whnf
    refine cond_t g15_5 ?_
    conv => whnf
    refine cond_t g15_5 ?_
    conv => whnf
    refine cond_t g15_5 ?_
    conv => whnf
    refine cond_t g15_5 ?_
    conv => whnf
    refine cond_go rfl ?_
    conv => whnf
    refine cond_T ?_
    replace hl0 := ift (si e20).symm hl0
    obtain rfl := si hl0
    replace hm := elr hm
    obtain rfl := si hm
    conv => whnf
    refine EndStep.mk _ lk0 ⟨rfl, rfl⟩ (ConvH.of (.cons r0 .nil))
   ·replace e20 := iff_ g15_5 e20
    conv => whnf
    refine cond_f g15_5 ?_
    conv => whnf
    refine cond_f g15_5 ?_
    conv => whnf
    refine idx_str rfl (nn _) hx0 ?_
    conv => whnf
    refine cond_f g15_5 ?_
    conv => whnf
    refine cond_f g15_5 ?_
    conv => whnf
    refine cond_go rfl ?_
    conv => whnf
    refine cond_s (fun w20 => ?_) (fun w20 => ?_)
    ·replace hl0 := ift ((si e20).symm.trans w20) hl0
     obtain rfl := si hl0
     replace hm := elr hm
     obtain rfl := si hm
     conv => whnf
     refine EndStep.mk _ lk0 ⟨rfl, rfl⟩ (ConvH.of (.cons r0 .nil))
    ·replace hl0 := iff_ ((si e20).symm.trans w20) hl0
     conv => whnf
     refine idx_str rfl (nn _) hx0 ?_
     conv => whnf
     refine eq_int ?_
     obtain ⟨x30, e30, hl0⟩ := bnd hl0
     conv => whnf
     refine cond_s (fun g25_7 => ?_) (fun g25_7 => ?_)
     ·replace e30 := ift g25_7 e30
      conv => whnf
      refine cond_t g25_7 ?_
      conv => whnf
      refine cond_t g25_7 ?_
      conv => whnf
      refine cond_t g25_7 ?_
      conv => whnf
      refine cond_t g25_7 ?_
      conv => whnf
      refine cond_go rfl ?_
      conv => whnf
      refine cond_T ?_
      replace hl0 := ift (si e30).symm hl0
      conv => whnf
      refine bsO (len := 1) (enc := eU) (l := ([(92 : UInt8)] : Str)) (cl := [.int .u8 92]) elT110 rfl rfl (fun _ _ => rfl) rfl rfl rfl ?_ fun b32 => ?_
      ·conv => whnf
       refine cond_T ?_
       conv => whnf
       first | done | rfl
      conv => whnf
      refine RStep.of (cv_ownE rfl r0 rfl rfl rfl ?_)
      obtain ⟨h34, hl0⟩ := chkb hl0
      conv => whnf
      refine cat_str h34 ?_
      conv => whnf
      refine int_in (cntz hx0 hk0) ?_
      obtain ⟨h40, hl0⟩ := chkb hl0
      conv => whnf
      refine RStep.ofN (sl_str (lo := (some (i0 : Int))) (hi := (some ((i0 : Int) + 1))) rfl h40 ?_)
      obtain ⟨h41, hl0⟩ := chkb hl0
      conv => whnf
      refine cat_str h41 ?_
      conv => whnf
      refine int_in (cntz hx0 hk0) ?_
      conv => whnf
      refine RoundStep.mk (i0 + 1, ((y0_0 ++ ([(92 : UInt8)] : Str)) ++ (subL s (i0 : Int) ((i0 : Int) + 1)))) ⟨rfl, rfl, trivial⟩ (by repeat (first | exact trivial | refine And.intro rfl ?_)) (ConvH.of (.cons r1 .nil)) lk0 (ltm hx0) hl0
     ·replace e30 := iff_ g25_7 e30
      conv => whnf
      refine cond_f g25_7 ?_
      conv => whnf
      refine cond_f g25_7 ?_
      conv => whnf
      refine idx_str rfl (nn _) hx0 ?_
      conv => whnf
      refine cond_f g25_7 ?_
      conv => whnf
      refine eq_int ?_
      conv => whnf
      refine cond_f g25_7 ?_
      conv => whnf
      refine cond_go rfl ?_
      conv => whnf
      refine cond_s (fun w30 => ?_) (fun w30 => ?_)
      ·replace hl0 := ift ((si e30).symm.trans w30) hl0
       conv => whnf
       refine bsO (len := 1) (enc := eU) (l := ([(92 : UInt8)] : Str)) (cl := [.int .u8 92]) elT110 rfl rfl (fun _ _ => rfl) rfl rfl rfl ?_ fun b32 => ?_
       ·conv => whnf
        refine cond_T ?_
        conv => whnf
        first | done | rfl
       conv => whnf
       refine RStep.of (cv_ownE rfl r0 rfl rfl rfl ?_)
       obtain ⟨h34, hl0⟩ := chkb hl0
       conv => whnf
       refine cat_str h34 ?_
       conv => whnf
       refine int_in (cntz hx0 hk0) ?_
       obtain ⟨h40, hl0⟩ := chkb hl0
       conv => whnf
       refine RStep.ofN (sl_str (lo := (some (i0 : Int))) (hi := (some ((i0 : Int) + 1))) rfl h40 ?_)
       obtain ⟨h41, hl0⟩ := chkb hl0
       conv => whnf
       refine cat_str h41 ?_
       conv => whnf
       refine int_in (cntz hx0 hk0) ?_
       conv => whnf
       refine RoundStep.mk (i0 + 1, ((y0_0 ++ ([(92 : UInt8)] : Str)) ++ (subL s (i0 : Int) ((i0 : Int) + 1)))) ⟨rfl, rfl, trivial⟩ (by repeat (first | exact trivial | refine And.intro rfl ?_)) (ConvH.of (.cons r1 .nil)) lk0 (ltm hx0) hl0
      ·replace hl0 := iff_ ((si e30).symm.trans w30) hl0
       conv => whnf
       refine int_in (cntz hx0 hk0) ?_
       obtain ⟨h40, hl0⟩ := chkb hl0
       conv => whnf
       refine RStep.ofN (sl_str (lo := (some (i0 : Int))) (hi := (some ((i0 : Int) + 1))) rfl h40 ?_)
       obtain ⟨h41, hl0⟩ := chkb hl0
       conv => whnf
       refine cat_str h41 ?_
       conv => whnf
       refine int_in (cntz hx0 hk0) ?_
       conv => whnf
       refine RoundStep.mk (i0 + 1, (y0_0 ++ (subL s (i0 : Int) ((i0 : Int) + 1)))) ⟨rfl, rfl, trivial⟩ (by repeat (first | exact trivial | refine And.intro rfl ?_)) (ConvH.of (.cons r0 .nil)) lk0 (ltm hx0) hl0
  ·rw [lty w0, ref42_Quote_L0.eq_1] at hl0
   conv => whnf
   refine cond_T ?_
   conv => whnf
   refine MeetStep.mk (y0_0) ⟨rfl, trivial⟩ (by repeat (first | exact trivial | refine And.intro rfl ?_)) (ConvH.of (.cons r0 .nil)) lk0 (si hl0).symm
 ·rintro t0 Kt0 lt0 rfl j0
  replace hm := elg hm
  obtain ⟨h44, hm⟩ := chkb hm
  conv => whnf
  refine cat_str h44 ?_
  obtain rfl := si hm
  conv => whnf
  refine EndStep.mk _ lt0 ⟨rfl, rfl⟩ (ConvH.of (.cons r0 .nil))

noncomputable def ref43_printable (s : Str) : Option (Bool) :=
 (ref42_Quote s).bind fun x7 =>
 some x7.2
set_option maxHeartbeats 8000000 in
theorem ref43_printable_ok {s : Str} {K : Hp} {r : Bool}
  (hm : ref43_printable s = some r)  :
  Fn Tryd.prog 66 [str s] K [] (fun v K' H' => v = .bool r ∧ H' = []) := by
 refine Fn.enter Tryd.func66 Tryd.call66 rfl fun F => ?_
 unfold ref43_printable at hm
 obtain ⟨x7, q7, hm⟩ := bnd hm
 conv => whnf
 refine call_fn (ref42_Quote_ok (s := s) q7) .nil ?_
 rintro _ K7 _ l7 ⟨rfl, rfl⟩
 obtain rfl := si hm
 conv => whnf
 refine EndStep.mk _ l7 ⟨rfl, rfl⟩ (ConvH.of (.cons r0 .nil))

noncomputable def ref42_Keywords : Option ((List Str)) :=
 some ([([105, 102] : Str), ([101, 108, 115, 101] : Str), ([108, 101, 116] : Str), ([118, 97, 114, 121] : Str), ([116, 97, 103] : Str), ([116, 116, 108] : Str), ([100, 101, 110, 121] : Str), ([112, 97, 115, 115] : Str), ([116, 111, 107, 101, 110] : Str), ([111, 114] : Str), ([97, 110, 100] : Str), ([110, 111, 116] : Str), ([115, 116, 97, 114, 116, 115] : Str), ([101, 110, 100, 115] : Str), ([99, 111, 110, 116, 97, 105, 110, 115] : Str), ([116, 114, 117, 101] : Str), ([102, 97, 108, 115, 101] : Str)])
set_option maxHeartbeats 8000000 in
theorem ref42_Keywords_ok  {K : Hp} {r : (List Str)}
  (hm : ref42_Keywords = some r)  :
  Fn Tryd.prog 84 [] K [] (fun v K' H' => ∃ ar_0 : Option Addr, ∃ cr_0 : Nat, v = .slice ar_0 r.length cr_0 ∧ (0 < r.length → Has ar_0) ∧ H' = [OwnL eS ar_0 9 1 cr_0 r]) := by
 refine Fn.enter Tryd.func84 Tryd.call84 rfl fun F => ?_
 unfold ref42_Keywords at hm
 conv => whnf
 refine bsO (len := 17) (enc := eS) (l := [([105, 102] : Str), ([101, 108, 115, 101] : Str), ([108, 101, 116] : Str), ([118, 97, 114, 121] : Str), ([116, 97, 103] : Str), ([116, 116, 108] : Str), ([100, 101, 110, 121] : Str), ([112, 97, 115, 115] : Str), ([116, 111, 107, 101, 110] : Str), ([111, 114] : Str), ([97, 110, 100] : Str), ([110, 111, 116] : Str), ([115, 116, 97, 114, 116, 115] : Str), ([101, 110, 100, 115] : Str), ([99, 111, 110, 116, 97, 105, 110, 115] : Str), ([116, 114, 117, 101] : Str), ([102, 97, 108, 115, 101] : Str)]) (cl := [str ([105, 102] : Str), str ([101, 108, 115, 101] : Str), str ([108, 101, 116] : Str), str ([118, 97, 114, 121] : Str), str ([116, 97, 103] : Str), str ([116, 116, 108] : Str), str ([100, 101, 110, 121] : Str), str ([112, 97, 115, 115] : Str), str ([116, 111, 107, 101, 110] : Str), str ([111, 114] : Str), str ([97, 110, 100] : Str), str ([110, 111, 116] : Str), str ([115, 116, 97, 114, 116, 115] : Str), str ([101, 110, 100, 115] : Str), str ([99, 111, 110, 116, 97, 105, 110, 115] : Str), str ([116, 114, 117, 101] : Str), str ([102, 97, 108, 115, 101] : Str)]) elT114 rfl rfl (fun _ _ => rfl) rfl rfl rfl ?_ fun b1 => ?_
 ·conv => whnf
  refine cond_T ?_
  conv => whnf
  refine cond_T ?_
  conv => whnf
  refine cond_T ?_
  conv => whnf
  refine cond_T ?_
  conv => whnf
  refine cond_T ?_
  conv => whnf
  refine cond_T ?_
  conv => whnf
  refine cond_T ?_
  conv => whnf
  refine cond_T ?_
  conv => whnf
  refine cond_T ?_
  conv => whnf
  refine cond_T ?_
  conv => whnf
  refine cond_T ?_
  conv => whnf
  refine cond_T ?_
  conv => whnf
  refine cond_T ?_
  conv => whnf
  refine cond_T ?_
  conv => whnf
  refine cond_T ?_
  conv => whnf
  refine cond_T ?_
  conv => whnf
  refine cond_T ?_
  conv => whnf
  first | done | rfl
 obtain rfl := si hm
 conv => whnf
 refine EndStep.mk _ (Hp.Le.refl _) ⟨(some ⟨b1, 0, none⟩), 17, rfl, (fun _ => ⟨_, _, rfl⟩), rfl⟩ (ConvH.of (.cons r0 (.cons r0 .nil)))

noncomputable def ref42_Keyword_L0 (s : Str) : List Str → Nat → Option (Fl (Bool) (Unit))
 | [], _ => some (Fl.go ())
 | e0 :: xs0, i0 =>
  if decide (e0 = s) then
  some (Fl.ret true)
  else
  ref42_Keyword_L0 s xs0 (i0 + 1)
noncomputable def ref42_Keyword (s : Str) : Option (Bool) :=
 (ref42_Keywords).bind fun x5 =>
 (chk (x5.length ≤ szMax)).bind fun _ =>
 (ref42_Keyword_L0 s x5 0).bind fun s0 => s0.el some fun t0 =>
 some false
set_option maxHeartbeats 8000000 in
theorem ref42_Keyword_ok {s : Str} {K : Hp} {r : Bool}
  (hm : ref42_Keyword s = some r)  :
  Fn Tryd.prog 77 [str s] K [] (fun v K' H' => v = .bool r ∧ H' = []) := by
 refine Fn.enter Tryd.func77 Tryd.call77 rfl fun F => ?_
 unfold ref42_Keyword at hm
 obtain ⟨x5, q5, hm⟩ := bnd hm
 conv => whnf
 refine call_fn (ref42_Keywords_ok q5) .nil ?_
 rintro _ K5 _ l5 ⟨a5_0, c5_0, rfl, h5_0, rfl⟩
 conv => whnf
 refine RStep.of (len_slice rfl ?_)
 obtain ⟨hk0, hm⟩ := chkb hm
 obtain ⟨s0, hl0, hm⟩ := bnd hm
 conv => whnf
 refine code_cut (σ := (Unit)) [2, 4, 8, 9, 10, 11, 12, 13, 14, 15, 16, 17] (fun t0 => []) (fun t0 => [OwnL eS a5_0 9 1 c5_0 x5, F]) (fun zz K1 => match zz with | t0 => s0 = Fl.go t0) ?_ ?_
 ·refine block_go rfl ?_
  conv => whnf
  refine loop_rule (σ := Nat) [2, 4, 8, 9, 10, 11, 12, 13, 14, 15, 16, 17] (fun i0 => [(8, .int .i64 (i0 : Int))]) (fun i0 => [OwnL eS a5_0 9 1 c5_0 x5, F]) (fun zz K1 => match zz with | i0 => ref42_Keyword_L0 s (x5.drop i0) i0 = some s0) (fun zz => x5.length - zz) (0) rfl ⟨rfl, trivial⟩ (ConvH.of (.cons r0 (.cons r0 .nil))) hl0 ?_
  clear hl0
  rintro i0 Kb0 lk0 hl0 j0
  conv at hl0 => whnf
  conv => whnf
  refine cond_go rfl ?_
  conv => whnf
  refine cond_s (fun w0 => ?_) (fun w0 => ?_)
  ·obtain ⟨e0, hx0, hd0⟩ := ltx w0
   rw [hd0, ref42_Keyword_L0.eq_2] at hl0
   conv => whnf
   refine block_go rfl ?_
   conv => whnf
   refine RStep.ofN (index_addr rfl rfl (hasO h5_0 hx0) (nn _) (lt_ofNE rfl hx0) ?_)
   conv => whnf
   refine RStep.of (ld_own (i := i0) (o := 0) r0 rfl hx0 rfl rfl ?_)
   conv => whnf
   refine eq_str ?_
   conv => whnf
   refine cond_go rfl ?_
   conv => whnf
   refine cond_s (fun w16 => ?_) (fun w16 => ?_)
   ·replace hl0 := ift w16 hl0
    obtain rfl := si hl0
    replace hm := elr hm
    obtain rfl := si hm
    conv => whnf
    refine EndStep.mk _ (l5.trans lk0) ⟨rfl, rfl⟩ (ConvH.of (.cons r1 .nil))
   ·replace hl0 := iff_ w16 hl0
    conv => whnf
    refine int_in (cntz hx0 hk0) ?_
    conv => whnf
    refine RoundStep.mk (i0 + 1) ⟨rfl, trivial⟩ (by repeat (first | exact trivial | refine And.intro rfl ?_)) (ConvH.of (.cons r0 (.cons r0 .nil))) lk0 (ltm hx0) hl0
  ·rw [lty w0, ref42_Keyword_L0.eq_1] at hl0
   conv => whnf
   refine cond_T ?_
   conv => whnf
   refine MeetStep.mk (()) trivial (by repeat (first | exact trivial | refine And.intro rfl ?_)) (ConvH.of (.cons r0 (.cons r0 .nil))) lk0 (si hl0).symm
 ·rintro t0 Kt0 lt0 rfl j0
  replace hm := elg hm
  obtain rfl := si hm
  conv => whnf
  refine EndStep.mk _ (l5.trans lt0) ⟨rfl, rfl⟩ (ConvH.of (.cons r1 .nil))

noncomputable def ref43_named (n : Nat) (s : Str) : Option (Bool) :=
 (ref43_token n s 1).bind fun x4 =>
 (if x4 then (ref42_Keyword s).bind fun x7 =>
 some (!x7) else some false).bind fun x9 =>
 some x9
set_option maxHeartbeats 8000000 in
theorem ref43_named_ok {n : Nat} {s : Str} {K : Hp} {r : Bool}
  (hm : ref43_named n s = some r)  :
  Fn Tryd.prog 64 [str s] K [] (fun v K' H' => v = .bool r ∧ H' = []) := by
 refine Fn.enter Tryd.func64 Tryd.call64 rfl fun F => ?_
 unfold ref43_named at hm
 obtain ⟨x4, q4, hm⟩ := bnd hm
 conv => whnf
 refine call_fn (ref43_token_ok (s := s) (kind := 1) q4) .nil ?_
 rintro _ K4 _ l4 ⟨rfl, rfl⟩
 obtain ⟨x9, e9, hm⟩ := bnd hm
 conv => whnf
 refine cond_s (fun g5_1 => ?_) (fun g5_1 => ?_)
 ·replace e9 := ift g5_1 e9
  conv => whnf
  refine cond_t g5_1 ?_
  obtain ⟨x7, q7, e9⟩ := bnd e9
  conv => whnf
  refine call_fn (ref42_Keyword_ok (s := s) q7) .nil ?_
  rintro _ K7 _ l7 ⟨rfl, rfl⟩
  conv => whnf
  refine cond_t g5_1 ?_
  conv => whnf
  refine un_not ?_
  conv => whnf
  refine cond_t g5_1 ?_
  obtain rfl := si hm
  conv => whnf
  refine EndStep.mk _ (l4.trans l7) ⟨(by rw [← (si e9)] <;> rfl), rfl⟩ (ConvH.of (.cons r0 .nil))
 ·replace e9 := iff_ g5_1 e9
  conv => whnf
  refine cond_f g5_1 ?_
  conv => whnf
  refine cond_f g5_1 ?_
  conv => whnf
  refine cond_f g5_1 ?_
  obtain rfl := si hm
  conv => whnf
  refine EndStep.mk _ l4 ⟨(by rw [← ((si e9).symm).symm] <;> rfl), rfl⟩ (ConvH.of (.cons r0 .nil))

noncomputable def ref43_exprs_L0 (rec1_0 : (S_ref43_Node → Option (Bool))) : List S_ref43_Node → Nat → Option (Fl (Bool) (Unit))
 | [], _ => some (Fl.go ())
 | e0 :: xs0, i0 =>
  (rec1_0 e0).bind fun x15 =>
  if (!x15) then
  some (Fl.ret false)
  else
  ref43_exprs_L0 rec1_0 xs0 (i0 + 1)
noncomputable def ref43_exprs (rec1_0 : (S_ref43_Node → Option (Bool))) (n : Nat) (l : (List S_ref43_Node)) (many : Int) : Option (Bool) :=
 (chk (l.length ≤ szMax)).bind fun _ =>
 (ref43_exprs_L0 rec1_0 l 0).bind fun s0 => s0.el some fun t0 =>
 some (decide ((l.length : Int) = many))
set_option maxHeartbeats 8000000 in
theorem ref43_exprs_ok {rec1_0 : (S_ref43_Node → Option (Bool))} (ihrec1_0 : ∀ {n' : S_ref43_Node} {ap0_0 : Option Addr} {cp0_0 : Nat} {K : Hp} {r : Bool} (hm : rec1_0 n' = some r) (hp0_0 : LiC S_ref43_Node.R K ap0_0 cp0_0 4 n'.Kids), Fn Tryd.prog 62 [.agg #[.int .i64 n'.Kind, str n'.Text, .slice ap0_0 n'.Kids.length cp0_0, .int .i64 n'.Line]] K [] (fun v K' H' => v = .bool r ∧ H' = [])) {n : Nat} {l : (List S_ref43_Node)} {many : Int} {ap0_0 : Option Addr} {cp0_0 : Nat} {n0 : Nat} {K : Hp} {r : Bool}
  (hm : ref43_exprs rec1_0 n l many = some r) (hp0_0 : LiC S_ref43_Node.R K ap0_0 cp0_0 4 l) (en0 : n0 = l.length) :
  Fn Tryd.prog 65 [.slice ap0_0 n0 cp0_0, .int .i64 many] K [] (fun v K' H' => v = .bool r ∧ H' = []) := by
 subst en0
 refine Fn.enter Tryd.func65 Tryd.call65 rfl fun F => ?_
 unfold ref43_exprs at hm
 conv => whnf
 refine RStep.of (len_slice rfl ?_)
 obtain ⟨hk0, hm⟩ := chkb hm
 obtain ⟨s0, hl0, hm⟩ := bnd hm
 conv => whnf
 refine code_cut (σ := (Unit)) [4, 5, 8, 9, 10, 11, 12, 13, 14, 15, 16, 17] (fun t0 => []) (fun t0 => [F]) (fun zz K1 => match zz with | t0 => s0 = Fl.go t0) ?_ ?_
 ·refine block_go rfl ?_
  conv => whnf
  refine loop_rule (σ := Nat) [4, 5, 8, 9, 10, 11, 12, 13, 14, 15, 16, 17] (fun i0 => [(8, .int .i64 (i0 : Int))]) (fun i0 => [F]) (fun zz K1 => match zz with | i0 => ref43_exprs_L0 rec1_0 (l.drop i0) i0 = some s0) (fun zz => l.length - zz) (0) rfl ⟨rfl, trivial⟩ (ConvH.of (.cons r0 .nil)) hl0 ?_
  clear hl0
  rintro i0 Kb0 lk0 hl0 j0
  conv at hl0 => whnf
  conv => whnf
  refine cond_go rfl ?_
  conv => whnf
  refine cond_s (fun w0 => ?_) (fun w0 => ?_)
  ·obtain ⟨e0, hx0, hd0⟩ := ltx w0
   rw [hd0, ref43_exprs_L0.eq_2] at hl0
   conv => whnf
   refine block_go rfl ?_
   conv => whnf
   refine RStep.ofN (index_addr rfl rfl (hasR (LiC.mono S_ref43_Node.R_ok lk0 hp0_0).rd hx0) (nn _) (lt_ofN hx0) ?_)
   obtain ⟨ss14, cc14, hr14, hc14, hR14⟩ := LiR.get (LiC.mono S_ref43_Node.R_ok lk0 hp0_0).rd hx0
   obtain ⟨a14_0, c14_0, rfl, h14_0⟩ := S_ref43_Node.out hR14
   conv => whnf
   refine RStep.of (load_rd_agg i0 _ hr14 rfl hc14 rfl ?_)
   obtain ⟨x15, q15, hl0⟩ := bnd hl0
   conv => whnf
   refine call_fn (ihrec1_0 (n' := e0) q15 h14_0) .nil ?_
   rintro _ K15 _ l15 ⟨rfl, rfl⟩
   conv => whnf
   refine un_not ?_
   conv => whnf
   refine cond_go rfl ?_
   conv => whnf
   refine cond_s (fun w16 => ?_) (fun w16 => ?_)
   ·replace hl0 := ift (not_t (ni_t w16)) hl0
    obtain rfl := si hl0
    replace hm := elr hm
    obtain rfl := si hm
    conv => whnf
    refine EndStep.mk _ (lk0.trans l15) ⟨rfl, rfl⟩ (ConvH.of (.cons r0 .nil))
   ·replace hl0 := iff_ (not_f (ni_f w16)) hl0
    conv => whnf
    refine int_in (cntz hx0 hk0) ?_
    conv => whnf
    refine RoundStep.mk (i0 + 1) ⟨rfl, trivial⟩ (by repeat (first | exact trivial | refine And.intro rfl ?_)) (ConvH.of (.cons r0 .nil)) (lk0.trans l15) (ltm hx0) hl0
  ·rw [lty w0, ref43_exprs_L0.eq_1] at hl0
   conv => whnf
   refine cond_T ?_
   conv => whnf
   refine MeetStep.mk (()) trivial (by repeat (first | exact trivial | refine And.intro rfl ?_)) (ConvH.of (.cons r0 .nil)) lk0 (si hl0).symm
 ·rintro t0 Kt0 lt0 rfl j0
  replace hm := elg hm
  conv => whnf
  refine RStep.of (len_slice rfl ?_)
  conv => whnf
  refine eq_int ?_
  obtain rfl := si hm
  conv => whnf
  refine EndStep.mk _ lt0 ⟨rfl, rfl⟩ (ConvH.of (.cons r0 .nil))

noncomputable def ref43_expression : Nat → S_ref43_Node → Option (Bool)
 | 0, _ => none
 | n + 1, n' =>
  if decide (n'.Kind = 13) then
  (if decide (n'.Text = ([] : Str)) then (ref43_exprs (ref43_expression n) n n'.Kids 2).bind fun x17 =>
  some x17 else some false).bind fun x18 =>
  some x18
  else
  if decide (n'.Kind = 14) then
  (if decide (n'.Text = ([] : Str)) then (ref43_exprs (ref43_expression n) n n'.Kids 2).bind fun x17 =>
  some x17 else some false).bind fun x18 =>
  some x18
  else
  if decide (n'.Kind = 17) then
  (if decide (n'.Text = ([] : Str)) then (ref43_exprs (ref43_expression n) n n'.Kids 2).bind fun x17 =>
  some x17 else some false).bind fun x18 =>
  some x18
  else
  if decide (n'.Kind = 18) then
  (if decide (n'.Text = ([] : Str)) then (ref43_exprs (ref43_expression n) n n'.Kids 2).bind fun x17 =>
  some x17 else some false).bind fun x18 =>
  some x18
  else
  if decide (n'.Kind = 19) then
  (if decide (n'.Text = ([] : Str)) then (ref43_exprs (ref43_expression n) n n'.Kids 2).bind fun x17 =>
  some x17 else some false).bind fun x18 =>
  some x18
  else
  if decide (n'.Kind = 15) then
  (if decide (n'.Text = ([] : Str)) then (ref43_exprs (ref43_expression n) n n'.Kids 1).bind fun x27 =>
  some x27 else some false).bind fun x28 =>
  some x28
  else
  if decide (n'.Kind = 16) then
  (ref43_compares n'.Text).bind fun x33 =>
  (if x33 then (ref43_exprs (ref43_expression n) n n'.Kids 2).bind fun x37 =>
  some x37 else some false).bind fun x38 =>
  some x38
  else
  if decide (n'.Kind = 20) then
  (ref43_token n n'.Text 2).bind fun x43 =>
  some (x43 && decide ((n'.Kids.length : Int) = 0))
  else
  if decide (n'.Kind = 21) then
  (ref43_printable n'.Text).bind fun x54 =>
  some (x54 && decide ((n'.Kids.length : Int) = 0))
  else
  if decide (n'.Kind = 22) then
  some ((decide (n'.Text = ([116, 114, 117, 101] : Str)) || decide (n'.Text = ([102, 97, 108, 115, 101] : Str))) && decide ((n'.Kids.length : Int) = 0))
  else
  if decide (n'.Kind = 23) then
  (ref43_named n n'.Text).bind fun x81 =>
  some (x81 && decide ((n'.Kids.length : Int) = 0))
  else
  if decide (n'.Kind = 24) then
  (ref43_named n n'.Text).bind fun x92 =>
  (if x92 then (ref43_exprs (ref43_expression n) n n'.Kids (n'.Kids.length : Int)).bind fun x99 =>
  some x99 else some false).bind fun x100 =>
  some x100
  else
  some false
set_option maxHeartbeats 8000000 in
theorem ref43_expression_ok : ∀ {n : Nat} {n' : S_ref43_Node} {ap0_0 : Option Addr} {cp0_0 : Nat} {K : Hp} {r : Bool}
  (hm : ref43_expression n n' = some r) (hp0_0 : LiC S_ref43_Node.R K ap0_0 cp0_0 4 n'.Kids),
  Fn Tryd.prog 62 [.agg #[.int .i64 n'.Kind, str n'.Text, .slice ap0_0 n'.Kids.length cp0_0, .int .i64 n'.Line]] K [] (fun v K' H' => v = .bool r ∧ H' = []) := by
 intro n
 induction n with
 | zero =>
  intro n' ap0_0 cp0_0 K r hm hp0_0
  rw [ref43_expression.eq_1] at hm; cases hm
 | succ n ih =>
  intro n' ap0_0 cp0_0 K r hm hp0_0
  refine Fn.enter Tryd.func62 Tryd.call62 rfl fun F => ?_
  rw [ref43_expression.eq_2] at hm
  conv => whnf
  refine box_rule ?_
  intro b1
  conv => whnf
  refine field_addr rfl ?_
  conv => whnf
  refine RStep.of (load1_s r0 rfl rfl ?_)
  conv => whnf
  refine block_go rfl ?_
  conv => whnf
  refine eq_int ?_
  conv => whnf
  refine cond_go rfl ?_
  conv => whnf
  refine cond_s (fun w5 => ?_) (fun w5 => ?_)
  ·replace hm := ift w5 hm
   conv => whnf
   refine cond_go rfl ?_
   conv => whnf
   refine cond_t w5 ?_
   conv => whnf
   refine field_addr rfl ?_
   conv => whnf
   refine RStep.of (load1_s r0 rfl rfl ?_)
   conv => whnf
   refine eq_str ?_
   obtain ⟨x18, e18, hm⟩ := bnd hm
   conv => whnf
   refine cond_s (fun g14_7 => ?_) (fun g14_7 => ?_)
   ·replace e18 := ift g14_7 e18
    conv => whnf
    refine field_addr rfl ?_
    conv => whnf
    refine cond_t g14_7 ?_
    conv => whnf
    refine RStep.of (load1_s r0 rfl rfl ?_)
    conv => whnf
    refine cond_t g14_7 ?_
    obtain ⟨x17, q17, e18⟩ := bnd e18
    conv => whnf
    refine call_fn (ref43_exprs_ok ih (many := 2) q17 hp0_0 rfl) .nil ?_
    rintro _ K17 _ l17 ⟨rfl, rfl⟩
    conv => whnf
    refine cond_t g14_7 ?_
    obtain rfl := si hm
    conv => whnf
    refine EndStep.mk _ l17 ⟨(by rw [← (si e18)] <;> rfl), rfl⟩ (ConvH.of (.cons r1 .nil))
   ·replace e18 := iff_ g14_7 e18
    conv => whnf
    refine cond_f g14_7 ?_
    conv => whnf
    refine cond_f g14_7 ?_
    conv => whnf
    refine cond_f g14_7 ?_
    obtain rfl := si hm
    conv => whnf
    refine EndStep.mk _ (Hp.Le.refl _) ⟨(by rw [← ((si e18).symm).symm] <;> rfl), rfl⟩ (ConvH.of (.cons r1 .nil))
  ·replace hm := iff_ w5 hm
   conv => whnf
   refine eq_int ?_
   conv => whnf
   refine cond_go rfl ?_
   conv => whnf
   refine cond_s (fun w5 => ?_) (fun w5 => ?_)
   ·replace hm := ift w5 hm
    conv => whnf
    refine cond_go rfl ?_
    conv => whnf
    refine cond_t w5 ?_
    conv => whnf
    refine field_addr rfl ?_
    conv => whnf
    refine RStep.of (load1_s r0 rfl rfl ?_)
    conv => whnf
    refine eq_str ?_
    obtain ⟨x18, e18, hm⟩ := bnd hm
    conv => whnf
    refine cond_s (fun g14_7 => ?_) (fun g14_7 => ?_)
    ·replace e18 := ift g14_7 e18
     conv => whnf
     refine field_addr rfl ?_
     conv => whnf
     refine cond_t g14_7 ?_
     conv => whnf
     refine RStep.of (load1_s r0 rfl rfl ?_)
     conv => whnf
     refine cond_t g14_7 ?_
     obtain ⟨x17, q17, e18⟩ := bnd e18
     conv => whnf
     refine call_fn (ref43_exprs_ok ih (many := 2) q17 hp0_0 rfl) .nil ?_
     rintro _ K17 _ l17 ⟨rfl, rfl⟩
     conv => whnf
     refine cond_t g14_7 ?_
     obtain rfl := si hm
     conv => whnf
     refine EndStep.mk _ l17 ⟨(by rw [← (si e18)] <;> rfl), rfl⟩ (ConvH.of (.cons r1 .nil))
    ·replace e18 := iff_ g14_7 e18
     conv => whnf
     refine cond_f g14_7 ?_
     conv => whnf
     refine cond_f g14_7 ?_
     conv => whnf
     refine cond_f g14_7 ?_
     obtain rfl := si hm
     conv => whnf
     refine EndStep.mk _ (Hp.Le.refl _) ⟨(by rw [← ((si e18).symm).symm] <;> rfl), rfl⟩ (ConvH.of (.cons r1 .nil))
   ·replace hm := iff_ w5 hm
    conv => whnf
    refine eq_int ?_
    conv => whnf
    refine cond_go rfl ?_
    conv => whnf
    refine cond_s (fun w5 => ?_) (fun w5 => ?_)
    ·replace hm := ift w5 hm
     conv => whnf
     refine cond_go rfl ?_
     conv => whnf
     refine cond_t w5 ?_
     conv => whnf
     refine field_addr rfl ?_
     conv => whnf
     refine RStep.of (load1_s r0 rfl rfl ?_)
     conv => whnf
     refine eq_str ?_
     obtain ⟨x18, e18, hm⟩ := bnd hm
     conv => whnf
     refine cond_s (fun g14_7 => ?_) (fun g14_7 => ?_)
     ·replace e18 := ift g14_7 e18
      conv => whnf
      refine field_addr rfl ?_
      conv => whnf
      refine cond_t g14_7 ?_
      conv => whnf
      refine RStep.of (load1_s r0 rfl rfl ?_)
      conv => whnf
      refine cond_t g14_7 ?_
      obtain ⟨x17, q17, e18⟩ := bnd e18
      conv => whnf
      refine call_fn (ref43_exprs_ok ih (many := 2) q17 hp0_0 rfl) .nil ?_
      rintro _ K17 _ l17 ⟨rfl, rfl⟩
      conv => whnf
      refine cond_t g14_7 ?_
      obtain rfl := si hm
      conv => whnf
      refine EndStep.mk _ l17 ⟨(by rw [← (si e18)] <;> rfl), rfl⟩ (ConvH.of (.cons r1 .nil))
     ·replace e18 := iff_ g14_7 e18
      conv => whnf
      refine cond_f g14_7 ?_
      conv => whnf
      refine cond_f g14_7 ?_
      conv => whnf
      refine cond_f g14_7 ?_
      obtain rfl := si hm
      conv => whnf
      refine EndStep.mk _ (Hp.Le.refl _) ⟨(by rw [← ((si e18).symm).symm] <;> rfl), rfl⟩ (ConvH.of (.cons r1 .nil))
    ·replace hm := iff_ w5 hm
     conv => whnf
     refine eq_int ?_
     conv => whnf
     refine cond_go rfl ?_
     conv => whnf
     refine cond_s (fun w5 => ?_) (fun w5 => ?_)
     ·replace hm := ift w5 hm
      conv => whnf
      refine cond_go rfl ?_
      conv => whnf
      refine cond_t w5 ?_
      conv => whnf
      refine field_addr rfl ?_
      conv => whnf
      refine RStep.of (load1_s r0 rfl rfl ?_)
      conv => whnf
      refine eq_str ?_
      obtain ⟨x18, e18, hm⟩ := bnd hm
      conv => whnf
      refine cond_s (fun g14_7 => ?_) (fun g14_7 => ?_)
      ·replace e18 := ift g14_7 e18
       conv => whnf
       refine field_addr rfl ?_
       conv => whnf
       refine cond_t g14_7 ?_
       conv => whnf
       refine RStep.of (load1_s r0 rfl rfl ?_)
       conv => whnf
       refine cond_t g14_7 ?_
       obtain ⟨x17, q17, e18⟩ := bnd e18
       conv => whnf
       refine call_fn (ref43_exprs_ok ih (many := 2) q17 hp0_0 rfl) .nil ?_
       rintro _ K17 _ l17 ⟨rfl, rfl⟩
       conv => whnf
       refine cond_t g14_7 ?_
       obtain rfl := si hm
       conv => whnf
       refine EndStep.mk _ l17 ⟨(by rw [← (si e18)] <;> rfl), rfl⟩ (ConvH.of (.cons r1 .nil))
      ·replace e18 := iff_ g14_7 e18
       conv => whnf
       refine cond_f g14_7 ?_
       conv => whnf
       refine cond_f g14_7 ?_
       conv => whnf
       refine cond_f g14_7 ?_
       obtain rfl := si hm
       conv => whnf
       refine EndStep.mk _ (Hp.Le.refl _) ⟨(by rw [← ((si e18).symm).symm] <;> rfl), rfl⟩ (ConvH.of (.cons r1 .nil))
     ·replace hm := iff_ w5 hm
      conv => whnf
      refine eq_int ?_
      conv => whnf
      refine cond_go rfl ?_
      conv => whnf
      refine cond_s (fun w5 => ?_) (fun w5 => ?_)
      ·replace hm := ift w5 hm
       conv => whnf
       refine field_addr rfl ?_
       conv => whnf
       refine RStep.of (load1_s r0 rfl rfl ?_)
       conv => whnf
       refine eq_str ?_
       obtain ⟨x18, e18, hm⟩ := bnd hm
       conv => whnf
       refine cond_s (fun g14_7 => ?_) (fun g14_7 => ?_)
       ·replace e18 := ift g14_7 e18
        conv => whnf
        refine field_addr rfl ?_
        conv => whnf
        refine cond_t g14_7 ?_
        conv => whnf
        refine RStep.of (load1_s r0 rfl rfl ?_)
        conv => whnf
        refine cond_t g14_7 ?_
        obtain ⟨x17, q17, e18⟩ := bnd e18
        conv => whnf
        refine call_fn (ref43_exprs_ok ih (many := 2) q17 hp0_0 rfl) .nil ?_
        rintro _ K17 _ l17 ⟨rfl, rfl⟩
        conv => whnf
        refine cond_t g14_7 ?_
        obtain rfl := si hm
        conv => whnf
        refine EndStep.mk _ l17 ⟨(by rw [← (si e18)] <;> rfl), rfl⟩ (ConvH.of (.cons r1 .nil))
       ·replace e18 := iff_ g14_7 e18
        conv => whnf
        refine cond_f g14_7 ?_
        conv => whnf
        refine cond_f g14_7 ?_
        conv => whnf
        refine cond_f g14_7 ?_
        obtain rfl := si hm
        conv => whnf
        refine EndStep.mk _ (Hp.Le.refl _) ⟨(by rw [← ((si e18).symm).symm] <;> rfl), rfl⟩ (ConvH.of (.cons r1 .nil))
      ·replace hm := iff_ w5 hm
       conv => whnf
       refine eq_int ?_
       conv => whnf
       refine cond_go rfl ?_
       conv => whnf
       refine cond_s (fun w19 => ?_) (fun w19 => ?_)
       ·replace hm := ift w19 hm
        conv => whnf
        refine field_addr rfl ?_
        conv => whnf
        refine RStep.of (load1_s r0 rfl rfl ?_)
        conv => whnf
        refine eq_str ?_
        obtain ⟨x28, e28, hm⟩ := bnd hm
        conv => whnf
        refine cond_s (fun g24_9 => ?_) (fun g24_9 => ?_)
        ·replace e28 := ift g24_9 e28
         conv => whnf
         refine field_addr rfl ?_
         conv => whnf
         refine cond_t g24_9 ?_
         conv => whnf
         refine RStep.of (load1_s r0 rfl rfl ?_)
         conv => whnf
         refine cond_t g24_9 ?_
         obtain ⟨x27, q27, e28⟩ := bnd e28
         conv => whnf
         refine call_fn (ref43_exprs_ok ih (many := 1) q27 hp0_0 rfl) .nil ?_
         rintro _ K27 _ l27 ⟨rfl, rfl⟩
         conv => whnf
         refine cond_t g24_9 ?_
         obtain rfl := si hm
         conv => whnf
         refine EndStep.mk _ l27 ⟨(by rw [← (si e28)] <;> rfl), rfl⟩ (ConvH.of (.cons r1 .nil))
        ·replace e28 := iff_ g24_9 e28
         conv => whnf
         refine cond_f g24_9 ?_
         conv => whnf
         refine cond_f g24_9 ?_
         conv => whnf
         refine cond_f g24_9 ?_
         obtain rfl := si hm
         conv => whnf
         refine EndStep.mk _ (Hp.Le.refl _) ⟨(by rw [← ((si e28).symm).symm] <;> rfl), rfl⟩ (ConvH.of (.cons r1 .nil))
       ·replace hm := iff_ w19 hm
        conv => whnf
        refine eq_int ?_
        conv => whnf
        refine cond_go rfl ?_
        conv => whnf
        refine cond_s (fun w29 => ?_) (fun w29 => ?_)
        ·replace hm := ift w29 hm
         conv => whnf
         refine field_addr rfl ?_
         conv => whnf
         refine RStep.of (load1_s r0 rfl rfl ?_)
         obtain ⟨x33, q33, hm⟩ := bnd hm
         conv => whnf
         refine call_fn (ref43_compares_ok (s := n'.Text) q33) .nil ?_
         rintro _ K33 _ l33 ⟨rfl, rfl⟩
         obtain ⟨x38, e38, hm⟩ := bnd hm
         conv => whnf
         refine cond_s (fun g34_11 => ?_) (fun g34_11 => ?_)
         ·replace e38 := ift g34_11 e38
          conv => whnf
          refine field_addr rfl ?_
          conv => whnf
          refine cond_t g34_11 ?_
          conv => whnf
          refine RStep.of (load1_s r0 rfl rfl ?_)
          conv => whnf
          refine cond_t g34_11 ?_
          obtain ⟨x37, q37, e38⟩ := bnd e38
          conv => whnf
          refine call_fn (ref43_exprs_ok ih (many := 2) q37 (LiC.mono S_ref43_Node.R_ok l33 hp0_0) rfl) .nil ?_
          rintro _ K37 _ l37 ⟨rfl, rfl⟩
          conv => whnf
          refine cond_t g34_11 ?_
          obtain rfl := si hm
          conv => whnf
          refine EndStep.mk _ (l33.trans l37) ⟨(by rw [← (si e38)] <;> rfl), rfl⟩ (ConvH.of (.cons r1 .nil))
         ·replace e38 := iff_ g34_11 e38
          conv => whnf
          refine cond_f g34_11 ?_
          conv => whnf
          refine cond_f g34_11 ?_
          conv => whnf
          refine cond_f g34_11 ?_
          obtain rfl := si hm
          conv => whnf
          refine EndStep.mk _ l33 ⟨(by rw [← ((si e38).symm).symm] <;> rfl), rfl⟩ (ConvH.of (.cons r1 .nil))
        ·replace hm := iff_ w29 hm
         conv => whnf
         refine eq_int ?_
         conv => whnf
         refine cond_go rfl ?_
         conv => whnf
         refine cond_s (fun w39 => ?_) (fun w39 => ?_)
         ·replace hm := ift w39 hm
          conv => whnf
          refine field_addr rfl ?_
          conv => whnf
          refine RStep.of (load1_s r0 rfl rfl ?_)
          obtain ⟨x43, q43, hm⟩ := bnd hm
          conv => whnf
          refine call_fn (ref43_token_ok (s := n'.Text) (kind := 2) q43) .nil ?_
          rintro _ K43 _ l43 ⟨rfl, rfl⟩
          conv => whnf
          refine cond_s (fun g44_13 => ?_) (fun g44_13 => ?_)
          ·conv => whnf
           refine field_addr rfl ?_
           conv => whnf
           refine cond_t g44_13 ?_
           conv => whnf
           refine RStep.of (load1_s r0 rfl rfl ?_)
           conv => whnf
           refine cond_t g44_13 ?_
           conv => whnf
           refine RStep.of (len_slice rfl ?_)
           conv => whnf
           refine cond_t g44_13 ?_
           conv => whnf
           refine eq_int ?_
           conv => whnf
           refine cond_t g44_13 ?_
           obtain rfl := si hm
           conv => whnf
           refine EndStep.mk _ l43 ⟨(by rw [← (and_e (b := decide ((n'.Kids.length : Int) = 0)) g44_13)] <;> rfl), rfl⟩ (ConvH.of (.cons r1 .nil))
          ·conv => whnf
           refine cond_f g44_13 ?_
           conv => whnf
           refine cond_f g44_13 ?_
           conv => whnf
           refine cond_f g44_13 ?_
           conv => whnf
           refine cond_f g44_13 ?_
           obtain rfl := si hm
           conv => whnf
           refine EndStep.mk _ l43 ⟨(by rw [← ((and_f g44_13)).symm] <;> rfl), rfl⟩ (ConvH.of (.cons r1 .nil))
         ·replace hm := iff_ w39 hm
          conv => whnf
          refine eq_int ?_
          conv => whnf
          refine cond_go rfl ?_
          conv => whnf
          refine cond_s (fun w50 => ?_) (fun w50 => ?_)
          ·replace hm := ift w50 hm
           conv => whnf
           refine field_addr rfl ?_
           conv => whnf
           refine RStep.of (load1_s r0 rfl rfl ?_)
           obtain ⟨x54, q54, hm⟩ := bnd hm
           conv => whnf
           refine call_fn (ref43_printable_ok (s := n'.Text) q54) .nil ?_
           rintro _ K54 _ l54 ⟨rfl, rfl⟩
           conv => whnf
           refine cond_s (fun g55_15 => ?_) (fun g55_15 => ?_)
           ·conv => whnf
            refine field_addr rfl ?_
            conv => whnf
            refine cond_t g55_15 ?_
            conv => whnf
            refine RStep.of (load1_s r0 rfl rfl ?_)
            conv => whnf
            refine cond_t g55_15 ?_
            conv => whnf
            refine RStep.of (len_slice rfl ?_)
            conv => whnf
            refine cond_t g55_15 ?_
            conv => whnf
            refine eq_int ?_
            conv => whnf
            refine cond_t g55_15 ?_
            obtain rfl := si hm
            conv => whnf
            refine EndStep.mk _ l54 ⟨(by rw [← (and_e (b := decide ((n'.Kids.length : Int) = 0)) g55_15)] <;> rfl), rfl⟩ (ConvH.of (.cons r1 .nil))
           ·conv => whnf
            refine cond_f g55_15 ?_
            conv => whnf
            refine cond_f g55_15 ?_
            conv => whnf
            refine cond_f g55_15 ?_
            conv => whnf
            refine cond_f g55_15 ?_
            obtain rfl := si hm
            conv => whnf
            refine EndStep.mk _ l54 ⟨(by rw [← ((and_f g55_15)).symm] <;> rfl), rfl⟩ (ConvH.of (.cons r1 .nil))
          ·replace hm := iff_ w50 hm
           conv => whnf
           refine eq_int ?_
           conv => whnf
           refine cond_go rfl ?_
           conv => whnf
           refine cond_s (fun w61 => ?_) (fun w61 => ?_)
           ·replace hm := ift w61 hm
            conv => whnf
            refine field_addr rfl ?_
            conv => whnf
            refine RStep.of (load1_s r0 rfl rfl ?_)
            conv => whnf
            refine eq_str ?_
            conv => whnf
            refine cond_s (fun g66_17 => ?_) (fun g66_17 => ?_)
            ·conv => whnf
             refine cond_t g66_17 ?_
             conv => whnf
             refine cond_t g66_17 ?_
             conv => whnf
             refine cond_t g66_17 ?_
             conv => whnf
             refine cond_T ?_
             conv => whnf
             refine field_addr rfl ?_
             conv => whnf
             refine cond_T ?_
             conv => whnf
             refine RStep.of (load1_s r0 rfl rfl ?_)
             conv => whnf
             refine cond_T ?_
             conv => whnf
             refine RStep.of (len_slice rfl ?_)
             conv => whnf
             refine cond_T ?_
             conv => whnf
             refine eq_int ?_
             conv => whnf
             refine cond_T ?_
             obtain rfl := si hm
             conv => whnf
             refine EndStep.mk _ (Hp.Le.refl _) ⟨(by rw [← (and_e (b := decide ((n'.Kids.length : Int) = 0)) (or_t g66_17))] <;> rfl), rfl⟩ (ConvH.of (.cons r1 .nil))
            ·conv => whnf
             refine field_addr rfl ?_
             conv => whnf
             refine cond_f g66_17 ?_
             conv => whnf
             refine RStep.of (load1_s r0 rfl rfl ?_)
             conv => whnf
             refine cond_f g66_17 ?_
             conv => whnf
             refine eq_str ?_
             conv => whnf
             refine cond_f g66_17 ?_
             conv => whnf
             refine cond_s (fun g71_17 => ?_) (fun g71_17 => ?_)
             ·conv => whnf
              refine field_addr rfl ?_
              conv => whnf
              refine cond_t g71_17 ?_
              conv => whnf
              refine RStep.of (load1_s r0 rfl rfl ?_)
              conv => whnf
              refine cond_t g71_17 ?_
              conv => whnf
              refine RStep.of (len_slice rfl ?_)
              conv => whnf
              refine cond_t g71_17 ?_
              conv => whnf
              refine eq_int ?_
              conv => whnf
              refine cond_t g71_17 ?_
              obtain rfl := si hm
              conv => whnf
              refine EndStep.mk _ (Hp.Le.refl _) ⟨(by rw [← (and_e (b := decide ((n'.Kids.length : Int) = 0)) (or_u g66_17 g71_17))] <;> rfl), rfl⟩ (ConvH.of (.cons r1 .nil))
             ·conv => whnf
              refine cond_f g71_17 ?_
              conv => whnf
              refine cond_f g71_17 ?_
              conv => whnf
              refine cond_f g71_17 ?_
              conv => whnf
              refine cond_f g71_17 ?_
              obtain rfl := si hm
              conv => whnf
              refine EndStep.mk _ (Hp.Le.refl _) ⟨(by rw [← ((and_f (or_f g66_17 g71_17))).symm] <;> rfl), rfl⟩ (ConvH.of (.cons r1 .nil))
           ·replace hm := iff_ w61 hm
            conv => whnf
            refine eq_int ?_
            conv => whnf
            refine cond_go rfl ?_
            conv => whnf
            refine cond_s (fun w77 => ?_) (fun w77 => ?_)
            ·replace hm := ift w77 hm
             conv => whnf
             refine field_addr rfl ?_
             conv => whnf
             refine RStep.of (load1_s r0 rfl rfl ?_)
             obtain ⟨x81, q81, hm⟩ := bnd hm
             conv => whnf
             refine call_fn (ref43_named_ok (s := n'.Text) q81) .nil ?_
             rintro _ K81 _ l81 ⟨rfl, rfl⟩
             conv => whnf
             refine cond_s (fun g82_19 => ?_) (fun g82_19 => ?_)
             ·conv => whnf
              refine field_addr rfl ?_
              conv => whnf
              refine cond_t g82_19 ?_
              conv => whnf
              refine RStep.of (load1_s r0 rfl rfl ?_)
              conv => whnf
              refine cond_t g82_19 ?_
              conv => whnf
              refine RStep.of (len_slice rfl ?_)
              conv => whnf
              refine cond_t g82_19 ?_
              conv => whnf
              refine eq_int ?_
              conv => whnf
              refine cond_t g82_19 ?_
              obtain rfl := si hm
              conv => whnf
              refine EndStep.mk _ l81 ⟨(by rw [← (and_e (b := decide ((n'.Kids.length : Int) = 0)) g82_19)] <;> rfl), rfl⟩ (ConvH.of (.cons r1 .nil))
             ·conv => whnf
              refine cond_f g82_19 ?_
              conv => whnf
              refine cond_f g82_19 ?_
              conv => whnf
              refine cond_f g82_19 ?_
              conv => whnf
              refine cond_f g82_19 ?_
              obtain rfl := si hm
              conv => whnf
              refine EndStep.mk _ l81 ⟨(by rw [← ((and_f g82_19)).symm] <;> rfl), rfl⟩ (ConvH.of (.cons r1 .nil))
            ·replace hm := iff_ w77 hm
             conv => whnf
             refine eq_int ?_
             conv => whnf
             refine cond_go rfl ?_
             conv => whnf
             refine cond_s (fun w88 => ?_) (fun w88 => ?_)
             ·replace hm := ift w88 hm
              conv => whnf
              refine field_addr rfl ?_
              conv => whnf
              refine RStep.of (load1_s r0 rfl rfl ?_)
              obtain ⟨x92, q92, hm⟩ := bnd hm
              conv => whnf
              refine call_fn (ref43_named_ok (s := n'.Text) q92) .nil ?_
              rintro _ K92 _ l92 ⟨rfl, rfl⟩
              obtain ⟨x100, e100, hm⟩ := bnd hm
              conv => whnf
              refine cond_s (fun g93_21 => ?_) (fun g93_21 => ?_)
              ·replace e100 := ift g93_21 e100
               conv => whnf
               refine field_addr rfl ?_
               conv => whnf
               refine cond_t g93_21 ?_
               conv => whnf
               refine RStep.of (load1_s r0 rfl rfl ?_)
               conv => whnf
               refine cond_t g93_21 ?_
               conv => whnf
               refine field_addr rfl ?_
               conv => whnf
               refine cond_t g93_21 ?_
               conv => whnf
               refine RStep.of (load1_s r0 rfl rfl ?_)
               conv => whnf
               refine cond_t g93_21 ?_
               conv => whnf
               refine RStep.of (len_slice rfl ?_)
               conv => whnf
               refine cond_t g93_21 ?_
               obtain ⟨x99, q99, e100⟩ := bnd e100
               conv => whnf
               refine call_fn (ref43_exprs_ok ih (many := (n'.Kids.length : Int)) q99 (LiC.mono S_ref43_Node.R_ok l92 hp0_0) rfl) .nil ?_
               rintro _ K99 _ l99 ⟨rfl, rfl⟩
               conv => whnf
               refine cond_t g93_21 ?_
               obtain rfl := si hm
               conv => whnf
               refine EndStep.mk _ (l92.trans l99) ⟨(by rw [← (si e100)] <;> rfl), rfl⟩ (ConvH.of (.cons r1 .nil))
              ·replace e100 := iff_ g93_21 e100
               conv => whnf
               refine cond_f g93_21 ?_
               conv => whnf
               refine cond_f g93_21 ?_
               conv => whnf
               refine cond_f g93_21 ?_
               conv => whnf
               refine cond_f g93_21 ?_
               conv => whnf
               refine cond_f g93_21 ?_
               conv => whnf
               refine cond_f g93_21 ?_
               obtain rfl := si hm
               conv => whnf
               refine EndStep.mk _ l92 ⟨(by rw [← ((si e100).symm).symm] <;> rfl), rfl⟩ (ConvH.of (.cons r1 .nil))
             ·replace hm := iff_ w88 hm
              obtain rfl := si hm
              conv => whnf
              refine EndStep.mk _ (Hp.Le.refl _) ⟨rfl, rfl⟩ (ConvH.of (.cons r1 .nil))

noncomputable def ref43_blocks (rec2_0 : ((List S_ref43_Node) → Option (Bool))) (n : Nat) (n' : S_ref43_Node) : Option (Bool) :=
 (if (decide (n'.Kind = 12) && decide (n'.Text = ([] : Str))) then (rec2_0 n'.Kids).bind fun x14 =>
 some x14 else some false).bind fun x15 =>
 some x15
set_option maxHeartbeats 8000000 in
theorem ref43_blocks_ok {rec2_0 : ((List S_ref43_Node) → Option (Bool))} (ihrec2_0 : ∀ {l : (List S_ref43_Node)} {ap0_0 : Option Addr} {cp0_0 : Nat} {n0 : Nat} {K : Hp} {r : Bool} (hm : rec2_0 l = some r) (hp0_0 : LiC S_ref43_Node.R K ap0_0 cp0_0 4 l) (en0 : n0 = l.length), Fn Tryd.prog 35 [.slice ap0_0 n0 cp0_0] K [] (fun v K' H' => v = .bool r ∧ H' = [])) {n : Nat} {n' : S_ref43_Node} {ap0_0 : Option Addr} {cp0_0 : Nat} {K : Hp} {r : Bool}
  (hm : ref43_blocks rec2_0 n n' = some r) (hp0_0 : LiC S_ref43_Node.R K ap0_0 cp0_0 4 n'.Kids) :
  Fn Tryd.prog 63 [.agg #[.int .i64 n'.Kind, str n'.Text, .slice ap0_0 n'.Kids.length cp0_0, .int .i64 n'.Line]] K [] (fun v K' H' => v = .bool r ∧ H' = []) := by
 refine Fn.enter Tryd.func63 Tryd.call63 rfl fun F => ?_
 unfold ref43_blocks at hm
 conv => whnf
 refine box_rule ?_
 intro b1
 conv => whnf
 refine field_addr rfl ?_
 conv => whnf
 refine RStep.of (load1_s r0 rfl rfl ?_)
 conv => whnf
 refine eq_int ?_
 conv => whnf
 refine cond_s (fun g6_1 => ?_) (fun g6_1 => ?_)
 ·conv => whnf
  refine field_addr rfl ?_
  conv => whnf
  refine cond_t g6_1 ?_
  conv => whnf
  refine RStep.of (load1_s r0 rfl rfl ?_)
  conv => whnf
  refine cond_t g6_1 ?_
  conv => whnf
  refine eq_str ?_
  conv => whnf
  refine cond_t g6_1 ?_
  obtain ⟨x15, e15, hm⟩ := bnd hm
  conv => whnf
  refine cond_s (fun g11_1 => ?_) (fun g11_1 => ?_)
  ·replace e15 := ift (and_t g6_1 g11_1) e15
   conv => whnf
   refine field_addr rfl ?_
   conv => whnf
   refine cond_t g11_1 ?_
   conv => whnf
   refine RStep.of (load1_s r0 rfl rfl ?_)
   conv => whnf
   refine cond_t g11_1 ?_
   obtain ⟨x14, q14, e15⟩ := bnd e15
   conv => whnf
   refine call_fn (ihrec2_0 q14 hp0_0 rfl) .nil ?_
   rintro _ K14 _ l14 ⟨rfl, rfl⟩
   conv => whnf
   refine cond_t g11_1 ?_
   obtain rfl := si hm
   conv => whnf
   refine EndStep.mk _ l14 ⟨(by rw [← (si e15)] <;> rfl), rfl⟩ (ConvH.of (.cons r1 .nil))
  ·replace e15 := iff_ (and_g g6_1 g11_1) e15
   conv => whnf
   refine cond_f g11_1 ?_
   conv => whnf
   refine cond_f g11_1 ?_
   conv => whnf
   refine cond_f g11_1 ?_
   obtain rfl := si hm
   conv => whnf
   refine EndStep.mk _ (Hp.Le.refl _) ⟨(by rw [← ((si e15).symm).symm] <;> rfl), rfl⟩ (ConvH.of (.cons r1 .nil))
 ·conv => whnf
  refine cond_f g6_1 ?_
  conv => whnf
  refine cond_f g6_1 ?_
  conv => whnf
  refine cond_f g6_1 ?_
  obtain ⟨x15, e15, hm⟩ := bnd hm
  replace e15 := iff_ (and_f g6_1) e15
  conv => whnf
  refine cond_F ?_
  conv => whnf
  refine cond_F ?_
  conv => whnf
  refine cond_F ?_
  conv => whnf
  refine cond_F ?_
  obtain rfl := si hm
  conv => whnf
  refine EndStep.mk _ (Hp.Le.refl _) ⟨(by rw [← ((si e15).symm).symm] <;> rfl), rfl⟩ (ConvH.of (.cons r1 .nil))
